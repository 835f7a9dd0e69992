/- Contracts of the reference of package bits: each function comes to the word that the plain law names. -/
import Derived.Test.YtfghlfolejpjjaaBits
namespace Go.Proofs.Ytfghlfolejpjjaa
open Go.RowKit
namespace Ref1
theorem power_c (n : Int) (w : World) (h : 0 ≤ n) (h' : n ≤ 31) : Calls Try.prog 97 #[.int .i64 n] w fun e w' => e = .returned (.int .u32 (2 ^ n.toNat)) ∧ w = w' := by
  obtain ⟨m, rfl⟩ := Int.eq_ofNat_of_zero_le h
  rw [Int.toNat_natCast]
  go_enter Try.func97, Try.ntmps97
  go_wp2
  go_loop [3, 4] (fun p i => ∃ k : Nat, k ≤ m ∧ i = .int .i64 k ∧ p = .int .u32 (2 ^ k)) (fun _ i => m - (intOf i).toNat)
  case atStart => exact ⟨0, Nat.zero_le _, rfl, rfl⟩
  case round =>
    obtain ⟨k, hk, rfl, rfl⟩ := hrel
    by_cases hlt : k < m
    · have hs := Lib.hid (Bt.power_step (k := k) (by omega))
      go_wp2
      go_round
      case rel => exact ⟨k + 1, by omega, by go_num, by rw [hs.out]⟩
      case measure => simp [intOf]; omega
    · obtain rfl : k = m := by omega
      go_wp2
      go_ret
      exact ⟨rfl, rfl⟩

theorem bit_c (x i : Int) (w : World) (hx : 0 ≤ x) (hx' : x < 4294967296) : Calls Try.prog 93 #[.int .u32 x, .int .i64 i] w fun e w' => e = .returned (.int .u32 (Bt.bitv x i)) ∧ w = w' := by
  by_cases h0 : i < 0
  · go_enter Try.func93, Try.ntmps93
    go_wp2
    go_ret
    exact ⟨ret_int (Bt.bit_low h0), rfl⟩
  · by_cases h1 : 31 < i
    · go_enter Try.func93, Try.ntmps93
      go_wp2
      go_ret
      exact ⟨ret_int (Bt.bit_high hx' h1), rfl⟩
    · have p := Bt.power_rng (k := i.toNat) (by omega)
      obtain ⟨p1, p2⟩ := p
      have b := Bt.bit_mid (w := x) (i := i) hx (by omega)
      have hd : x / 2 ^ i.toNat ≤ x := (Bt.rng_le i.toNat hx)
      have hd0 : 0 ≤ x / 2 ^ i.toNat := (Bt.rng_shr i.toNat hx hx').1
      have B := Lib.hid b
      clear b
      go_enter Try.func93, Try.ntmps93
      go_wp2_with (go_at_call 97; refine (power_c _ _ (by omega) (by omega)).mono ?_; rintro e w' ⟨rfl, rfl⟩)
      go_ret
      exact ⟨ret_int B.out, rfl⟩

theorem set_c (x i b : Int) (w : World) (hx : 0 ≤ x) (hx' : x < 4294967296) (hb : 0 ≤ b) (hb' : b ≤ 1) :
    Calls Try.prog 92 #[.int .u32 x, .int .i64 i, .int .u32 b] w fun e w' => e = .returned (.int .u32 (Bt.setb x i b)) ∧ w = w' := by
  by_cases h0 : i < 0
  · go_enter Try.func92, Try.ntmps92
    go_wp2
    go_ret
    exact ⟨ret_int (Bt.set_out hx hx' (.inl h0)), rfl⟩
  · by_cases h1 : 31 < i
    · go_enter Try.func92, Try.ntmps92
      go_wp2
      go_ret
      exact ⟨ret_int (Bt.set_out hx hx' (.inr h1)), rfl⟩
    · obtain ⟨p1, p2⟩ := Bt.power_rng (k := i.toNat) (by omega)
      have B := Lib.hid (Bt.set_fin (i := i) hx hx' (by omega) (by omega) hb hb')
      obtain ⟨b1, b2⟩ := Bt.bitv_rng x i
      go_enter Try.func92, Try.ntmps92
      go_wp2_with (first | (go_at_call 93; refine (bit_c _ _ _ hx hx').mono ?_; rintro e w' ⟨rfl, rfl⟩) | (go_at_call 97; refine (power_c _ _ (by omega) (by omega)).mono ?_; rintro e w' ⟨rfl, rfl⟩))
      go_ret
      exact ⟨ret_int B.out, rfl⟩

theorem field_c (x at_ many : Int) (w : World) (hx : 0 ≤ x) (hx' : x < 4294967296) (HA : Hid (-9223372036854775808 ≤ at_)) :
    Calls Try.prog 85 #[.int .u32 x, .int .i64 at_, .int .i64 many] w fun e w' => e = .returned (.int .u32 (Bt.field x at_ many)) ∧ w = w' := by
  by_cases hf : at_ < 32
  · go_enter Try.func85, Try.ntmps85
    go_wp2
    go_loop [7, 8] (fun n i => ∃ k : Nat, k ≤ 32 ∧ (k = 0 ∨ (k : Int) ≤ many) ∧ i = .int .i64 k ∧ n = .int .u32 (Bt.fieldN k x at_)) (fun _ i => 32 - (intOf i).toNat)
    case atStart => exact ⟨0, Nat.zero_le _, .inl rfl, rfl, by rw [Bt.fieldN_zero]⟩
    case round =>
      obtain ⟨k, hk, hm, rfl, rfl⟩ := hrel
      have f0 := Bt.fieldN_rng k x at_
      obtain ⟨f1, f2⟩ := f0
      by_cases h1 : (k : Int) < many
      · by_cases h2 : (k : Int) < 32
        · have hs := Lib.hid (Bt.fieldN_succ k x at_)
          have hw := Bt.wrap64_add (a := at_) (k := k) HA.out (by omega)
          clear hm
          go_wp2_with (first | (go_at_call 93; refine (bit_c _ _ _ hx hx').mono ?_; rintro e w' ⟨rfl, rfl⟩) | (go_at_call 92; refine (set_c _ _ _ _ (Bt.fieldN_rng _ _ _).1 (Bt.fieldN_rng _ _ _).2 (Bt.bitv_rng _ _).1 (Bt.bitv_rng _ _).2).mono ?_; rintro e w' ⟨rfl, rfl⟩))
          go_round
          case rel => exact ⟨k + 1, by omega, by omega, by go_num, by rw [hs.out]⟩
          case measure => simp [intOf]; omega
        · have he := Lib.hid (Bt.fieldN_end (k := k) (w := x) (at_ := at_) (many := many) (by omega))
          clear hm
          go_wp2
          go_ret
          exact ⟨ret_int he.out, rfl⟩
      · have he := Lib.hid (Bt.fieldN_end (k := k) (w := x) (at_ := at_) (many := many) (by omega))
        clear hm
        go_wp2
        go_ret
        exact ⟨ret_int he.out, rfl⟩
  · go_enter Try.func85, Try.ntmps85
    go_wp2
    go_loop [7, 8] (fun n i => ∃ k : Nat, k ≤ 32 ∧ (k = 0 ∨ (k : Int) ≤ many) ∧ i = .int .i64 k ∧ n = .int .u32 0) (fun _ i => 32 - (intOf i).toNat)
    case atStart => exact ⟨0, Nat.zero_le _, .inl rfl, rfl, rfl⟩
    case round =>
      obtain ⟨k, hk, hm, rfl, rfl⟩ := hrel
      by_cases h1 : (k : Int) < many
      · by_cases h2 : (k : Int) < 32
        · clear hm
          go_wp2
          go_round
          case rel => exact ⟨k + 1, by omega, by omega, by go_num, rfl⟩
          case measure => simp [intOf]; omega
        · clear hm
          go_wp2
          go_ret
          exact ⟨ret_int (Bt.field_far hx' (by omega)), rfl⟩
      · clear hm
        go_wp2
        go_ret
        exact ⟨ret_int (Bt.field_far hx' (by omega)), rfl⟩

theorem put_c (x at_ many v : Int) (w : World) (hx : 0 ≤ x) (hx' : x < 4294967296) (hv : 0 ≤ v) (hv' : v < 4294967296) (HA : Hid (-9223372036854775808 ≤ at_)) :
    Calls Try.prog 84 #[.int .u32 x, .int .i64 at_, .int .i64 many, .int .u32 v] w fun e w' => e = .returned (.int .u32 (Bt.put x at_ many v)) ∧ w = w' := by
  by_cases hf : at_ < 32
  · go_enter Try.func84, Try.ntmps84
    go_wp2
    go_loop [0, 9] (fun n i => ∃ k : Nat, k ≤ 32 ∧ (k = 0 ∨ (k : Int) ≤ many) ∧ i = .int .i64 k ∧ n = .int .u32 (Bt.putN k x at_ v)) (fun _ i => 32 - (intOf i).toNat)
    case atStart => exact ⟨0, Nat.zero_le _, .inl rfl, rfl, by rw [Bt.putN_zero hx hx']⟩
    case round =>
      obtain ⟨k, hk, hm, rfl, rfl⟩ := hrel
      have f0 := Bt.putN_rng k x at_ v
      obtain ⟨f1, f2⟩ := f0
      by_cases h1 : (k : Int) < many
      · by_cases h2 : (k : Int) < 32
        · have hs := Lib.hid (Bt.putN_succ k x at_ v)
          have hw := Bt.wrap64_add (a := at_) (k := k) HA.out (by omega)
          clear hm
          go_wp2_with (first | (go_at_call 93; refine (bit_c _ _ _ hv hv').mono ?_; rintro e w' ⟨rfl, rfl⟩) | (go_at_call 92; refine (set_c _ _ _ _ (Bt.putN_rng _ _ _ _).1 (Bt.putN_rng _ _ _ _).2 (Bt.bitv_rng _ _).1 (Bt.bitv_rng _ _).2).mono ?_; rintro e w' ⟨rfl, rfl⟩))
          go_round
          case rel => exact ⟨k + 1, by omega, by omega, by go_num, by rw [hs.out]⟩
          case measure => simp [intOf]; omega
        · have he := Lib.hid (Bt.putN_end (k := k) (w := x) (at_ := at_) (many := many) (v := v) (by omega) hk)
          clear hm
          go_wp2
          go_ret
          exact ⟨ret_int he.out, rfl⟩
      · have he := Lib.hid (Bt.putN_end (k := k) (w := x) (at_ := at_) (many := many) (v := v) (by omega) hk)
        clear hm
        go_wp2
        go_ret
        exact ⟨ret_int he.out, rfl⟩
  · go_enter Try.func84, Try.ntmps84
    go_wp2
    go_loop [0, 9] (fun n i => ∃ k : Nat, k ≤ 32 ∧ (k = 0 ∨ (k : Int) ≤ many) ∧ i = .int .i64 k ∧ n = .int .u32 x) (fun _ i => 32 - (intOf i).toNat)
    case atStart => exact ⟨0, Nat.zero_le _, .inl rfl, rfl, rfl⟩
    case round =>
      obtain ⟨k, hk, hm, rfl, rfl⟩ := hrel
      by_cases h1 : (k : Int) < many
      · by_cases h2 : (k : Int) < 32
        · clear hm
          go_wp2
          go_round
          case rel => exact ⟨k + 1, by omega, by omega, by go_num, rfl⟩
          case measure => simp [intOf]; omega
        · clear hm
          go_wp2
          go_ret
          exact ⟨ret_int (Bt.put_far hx hx' (by omega)), rfl⟩
      · clear hm
        go_wp2
        go_ret
        exact ⟨ret_int (Bt.put_far hx hx' (by omega)), rfl⟩


theorem part_c (a b p : Int) (w : World) (ha : 0 ≤ a) (ha' : a < 4294967296) (hb : 0 ≤ b) (hb' : b < 4294967296) (hp : 0 ≤ p) (hp' : p < 4294967296) :
    Calls Try.prog 90 #[.int .u32 a, .int .u32 b, .int .u32 p] w fun e w' => e = .returned (.int .u32 (Bt.part a b p)) ∧ w = w' := by
  go_enter Try.func90, Try.ntmps90
  go_wp2
  go_loop [0, 7] (fun n i => ∃ k : Nat, k ≤ 32 ∧ i = .int .i64 k ∧ n = .int .u32 (Bt.partN k a b p)) (fun _ i => 32 - (intOf i).toNat)
  case atStart => exact ⟨0, Nat.zero_le _, rfl, by rw [Bt.partN_zero ha ha']⟩
  case round =>
    obtain ⟨k, hk, rfl, rfl⟩ := hrel
    obtain ⟨f1, f2⟩ := Bt.partN_rng k a b p
    by_cases h2 : (k : Int) < 32
    · cases ht : Bt.tb p k with
      | true =>
        have hs := Lib.hid (Bt.partN_yes (k := k) (a := a) (b := b) ht)
        have e1 : (Bt.bitv p k == 1) = true := by unfold Bt.bitv; rw [ht]; rfl
        clear ht
        go_wp2_with (first | (go_at_call_of 93 (Value.int IntKind.u32 p); refine (bit_c _ _ _ hp hp').mono ?_; rintro e w' ⟨rfl, rfl⟩) | (go_at_call 93; refine (bit_c _ _ _ hb hb').mono ?_; rintro e w' ⟨rfl, rfl⟩) | (go_at_call 92; refine (set_c _ _ _ _ (Bt.partN_rng _ _ _ _).1 (Bt.partN_rng _ _ _ _).2 (Bt.bitv_rng _ _).1 (Bt.bitv_rng _ _).2).mono ?_; rintro e w' ⟨rfl, rfl⟩))
        go_round
        case rel => exact ⟨k + 1, by omega, by go_num, by rw [hs.out]⟩
        case measure => simp [intOf]; omega
      | false =>
        have hs := Lib.hid (Bt.partN_no (k := k) (a := a) (b := b) ht)
        have e1 : (Bt.bitv p k == 1) = false := by unfold Bt.bitv; rw [ht]; rfl
        clear ht
        go_wp2_with (go_at_call 93; refine (bit_c _ _ _ hp hp').mono ?_; rintro e w' ⟨rfl, rfl⟩)
        go_round
        case rel => exact ⟨k + 1, by omega, by go_num, by rw [hs.out]⟩
        case measure => simp [intOf]; omega
    · obtain rfl : k = 32 := by omega
      have he := Lib.hid (Bt.partN_end a b p)
      go_wp2
      go_ret
      exact ⟨ret_int he.out, rfl⟩

theorem turn_c (x by_ : Int) (w : World) (hx : 0 ≤ x) (hx' : x < 4294967296) :
    Calls Try.prog 82 #[.int .u32 x, .int .i64 by_] w fun e w' => e = .returned (.int .u32 (Bt.turn x by_)) ∧ w = w' := by
  obtain ⟨t0, t1⟩ := Bt.tmod32 by_
  go_enter Try.func82, Try.ntmps82
  go_wp2
  generalize e : (by_.tmod 32 + 32) % 32 = s
  have g1 : 0 ≤ s := by omega
  have g2 : s < 32 := by omega
  have g3 : s % 32 = by_ % 32 := by have := Int.tmod_def by_ 32; omega
  have E3 := Lib.hid g3
  clear e g3 t0 t1
  go_loop [5, 6] (fun n i => ∃ k : Nat, k ≤ 32 ∧ i = .int .i64 k ∧ n = .int .u32 (Bt.turnN k x s)) (fun _ i => 32 - (intOf i).toNat)
  case atStart => exact ⟨0, Nat.zero_le _, rfl, by rw [Bt.turnN_zero]⟩
  case round =>
    obtain ⟨k, hk, rfl, rfl⟩ := hrel
    obtain ⟨f1, f2⟩ := Bt.turnN_rng k x s
    by_cases h2 : (k : Int) < 32
    · have hs := Lib.hid (Bt.turnN_succ (k := k) x s (by omega))
      go_wp2_with (first | (go_at_call 93; refine (bit_c _ _ _ hx hx').mono ?_; rintro e w' ⟨rfl, rfl⟩) | (go_at_call 92; refine (set_c _ _ _ _ (Bt.turnN_rng _ _ _).1 (Bt.turnN_rng _ _ _).2 (Bt.bitv_rng _ _).1 (Bt.bitv_rng _ _).2).mono ?_; rintro e w' ⟨rfl, rfl⟩))
      go_round
      case rel => exact ⟨k + 1, by omega, by go_num, by rw [hs.out]⟩
      case measure => simp [intOf]; omega
    · obtain rfl : k = 32 := by omega
      have he := Lib.hid ((Bt.turnN_end x s).trans (Bt.turn_mod (b := by_) E3.out))
      go_wp2
      go_ret
      exact ⟨ret_int he.out, rfl⟩

end Ref1
end Go.Proofs.Ytfghlfolejpjjaa

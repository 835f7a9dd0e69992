/- Contracts of package bits: each function comes to the word that the plain law names. -/
import Derived.Test.YtpdemjdjgehpgaaProg
import Derived.Test.YtpdemjdjgehpgaaBt
import Derived.WalkKit
import Derived.WalkSpells
import Derived.WalkLawsBesides
import Derived.Lib.Hide
import Derived.Deep.QuietTactic
import Derived.BigQuiet
import Derived.Deep.RegionWith
namespace Go.Proofs.Ytpdemjdjgehpgaa
open Go.RowKit

theorem ret_int {k : IntKind} {a b : Int} (h : a = b) : Ending.returned (.int k a) = .returned (.int k b) := by rw [h]

theorem max2_int (k k' : IntKind) (x y : Int) : Builtin.max2 (.int k x) (.int k' y) = pure (.int k (if x < y then y else x)) := by simp only [Builtin.max2, gt_iff_lt]
theorem min2_int (k k' : IntKind) (x y : Int) : Builtin.min2 (.int k x) (.int k' y) = pure (.int k (if y < x then y else x)) := by simp only [Builtin.min2]
theorem max_two (ats : Array TypeId) (ty : TypeId) (a b : Value) : Builtin.max_ ats ty #[a, b] = (Builtin.max2 a b >>= fun s => pure s) := by simp only [Builtin.max_, List.foldlM_cons, List.foldlM_nil]
theorem min_two (ats : Array TypeId) (ty : TypeId) (a b : Value) : Builtin.min_ ats ty #[a, b] = (Builtin.min2 a b >>= fun s => pure s) := by simp only [Builtin.min_, List.foldlM_cons, List.foldlM_nil]
attribute [local go_sem] max2_int min2_int max_two min_two

/-- A contract that leaves the world alone, met inside a region that draws. -/
theorem quiet_is {P : Program} {f : FuncId} {args : Array Value} {w : World} {n : Nat} {v : Value}
    (h : Calls P f args (w.drewN n) fun e w' => e = .returned v ∧ w.drewN n = w') : Calls P f args (w.drewN n) fun e w'' => e = .returned v ∧ ∃ m, w'' = w.drewN m :=
  h.mono fun _ _ ⟨he, hm⟩ => ⟨he, n, hm.symm⟩
theorem quiet_add {P : Program} {f : FuncId} {args : Array Value} {w : World} {a n : Nat} {v : Value}
    (h : Calls P f args (w.drewN (a + n)) fun e w' => e = .returned v ∧ ∃ m, w' = (w.drewN (a + n)).drewN m) :
    Calls P f args (w.drewN (a + n)) fun e w'' => e = .returned v ∧ ∃ m, w'' = w.drewN (a + m) :=
  h.mono fun _ _ ⟨he, m, hm⟩ => ⟨he, n + m, by rw [hm, World.drewN_drewN, Nat.add_assoc]⟩
theorem quiet_add_is {P : Program} {f : FuncId} {args : Array Value} {w : World} {a n : Nat} {v : Value}
    (h : Calls P f args (w.drewN (a + n)) fun e w' => e = .returned v ∧ w.drewN (a + n) = w') :
    Calls P f args (w.drewN (a + n)) fun e w'' => e = .returned v ∧ ∃ m, w'' = w.drewN (a + m) :=
  h.mono fun _ _ ⟨he, hm⟩ => ⟨he, n, hm.symm⟩
theorem below_drewN (w : World) (n : Nat) : Below w.heap.size w (w.drewN n) := ⟨rfl, rfl, rfl, Nat.le_refl _, fun _ _ => rfl⟩
theorem below_step {w a : World} (h : Below w.heap.size w a) (n : Nat) : Below w.heap.size w (a.drewN n) := h.trans ⟨rfl, rfl, rfl, Nat.le_refl _, fun _ _ => rfl⟩

namespace Bits
theorem mask_lo {n : Int} (h : n < 0) : (0 : Int) = Bt.mask n := by
  unfold Bt.mask; rw [show (min (max n 0) 32).toNat = 0 by omega]; rfl

theorem mask_hi {n : Int} (h : 32 < n) : (4294967295 : Int) = Bt.mask n := by
  unfold Bt.mask; rw [show (min (max n 0) 32).toNat = 32 by omega]; rfl

theorem mask_mid {n : Int} (h : 0 ≤ n) (h' : n ≤ 32) : IntKind.u64.wrap (IntKind.u64.wrap (2 ^ n.toNat) - 1) = Bt.mask n := by
  unfold Bt.mask; rw [show (min (max n 0) 32).toNat = n.toNat by omega]
  have p : (2 : Nat) ^ n.toNat ≤ 2 ^ 32 := Nat.pow_le_pow_right (by decide) (by omega)
  have q := Nat.two_pow_pos n.toNat
  have e : ((2 : Int) ^ n.toNat) = ((2 ^ n.toNat : Nat) : Int) := by simp
  rw [e, Bt.wrap_u64_id (x := ((2 ^ n.toNat : Nat) : Int)) (by omega) (by omega), Bt.wrap_u64_id (by omega) (by omega)]

theorem mask_c (n : Int) (w : World) : Calls Try.prog 39 #[.int .i64 n] w fun e w' => e = .returned (.int .u64 (Bt.mask n)) ∧ w = w' := by
  by_cases h0 : n < 0
  · go_enter Try.func39, Try.ntmps39
    go_wp2
    go_ret
    exact ⟨ret_int (mask_lo h0), rfl⟩
  · by_cases h1 : 32 < n
    · go_enter Try.func39, Try.ntmps39
      go_wp2
      go_ret
      exact ⟨ret_int (mask_hi h1), rfl⟩
    · go_enter Try.func39, Try.ntmps39
      go_wp2
      go_ret
      exact ⟨ret_int (mask_mid h0 h1), rfl⟩

theorem field_c (x at_ many : Int) (w : World) (hx : 0 ≤ x) (hx' : x < 4294967296) :
    Calls Try.prog 29 #[.int .u32 x, .int .i64 at_, .int .i64 many] w fun e w' => e = .returned (.int .u32 (Bt.field x at_ many)) ∧ w = w' := by
  by_cases h0 : at_ < 0
  · by_cases h1 : at_ < -40
    · go_enter Try.func29, Try.ntmps29
      go_wp2_with (go_at_call 39; refine (mask_c _ _).mono ?_; rintro e w' ⟨rfl, rfl⟩)
      go_ret
      exact ⟨ret_int (Bt.fl1 hx hx' h1), rfl⟩
    · go_enter Try.func29, Try.ntmps29
      go_wp2_with (go_at_call 39; refine (mask_c _ _).mono ?_; rintro e w' ⟨rfl, rfl⟩)
      go_ret
      exact ⟨ret_int (Bt.fl2 hx hx' h0), rfl⟩
  · by_cases h1 : 40 < at_
    · go_enter Try.func29, Try.ntmps29
      go_wp2_with (go_at_call 39; refine (mask_c _ _).mono ?_; rintro e w' ⟨rfl, rfl⟩)
      go_ret
      exact ⟨ret_int (Bt.fl3 hx hx' h1), rfl⟩
    · go_enter Try.func29, Try.ntmps29
      go_wp2_with (go_at_call 39; refine (mask_c _ _).mono ?_; rintro e w' ⟨rfl, rfl⟩)
      go_ret
      exact ⟨ret_int (Bt.fl4 hx hx' h0), rfl⟩

theorem put_c (x at_ many v : Int) (w : World) (hx : 0 ≤ x) (hx' : x < 4294967296) (hv : 0 ≤ v) (hv' : v < 4294967296) :
    Calls Try.prog 28 #[.int .u32 x, .int .i64 at_, .int .i64 many, .int .u32 v] w fun e w' => e = .returned (.int .u32 (Bt.put x at_ many v)) ∧ ∃ n, w' = w.drewN n := by
  by_cases h0 : at_ < 0
  · by_cases h1 : at_ < -40
    · go_enter Try.func28, Try.ntmps28
      go_wp2_with (go_at_call 39; refine (mask_c _ _).mono ?_; rintro e w' ⟨rfl, rfl⟩)
      go_quiet (fail)
      go_wp2
      go_ret
      exact ⟨ret_int (Bt.pl1 hx hx' hv hv' h1), _, rfl⟩
    · go_enter Try.func28, Try.ntmps28
      go_wp2_with (go_at_call 39; refine (mask_c _ _).mono ?_; rintro e w' ⟨rfl, rfl⟩)
      go_quiet (fail)
      go_wp2
      go_ret
      exact ⟨ret_int (Bt.pl2 hx hx' hv hv' h0), _, rfl⟩
  · by_cases h1 : 40 < at_
    · go_enter Try.func28, Try.ntmps28
      go_wp2_with (go_at_call 39; refine (mask_c _ _).mono ?_; rintro e w' ⟨rfl, rfl⟩)
      go_quiet (fail)
      go_wp2
      go_ret
      exact ⟨ret_int (Bt.pl3 hx hx' hv hv' h1), _, rfl⟩
    · go_enter Try.func28, Try.ntmps28
      go_wp2_with (go_at_call 39; refine (mask_c _ _).mono ?_; rintro e w' ⟨rfl, rfl⟩)
      go_quiet (fail)
      go_wp2
      go_ret
      exact ⟨ret_int (Bt.pl4 hx hx' hv hv' h0), _, rfl⟩

theorem sign_c (v many : Int) (w : World) (hv : 0 ≤ v) (hv' : v < 4294967296) :
    Calls Try.prog 42 #[.int .u32 v, .int .i64 many] w fun e w' => e = .returned (.int .u32 (Bt.sign v many)) ∧ w = w' := by
  by_cases h0 : many < 1
  · go_enter Try.func42, Try.ntmps42
    go_wp2
    go_ret
    exact ⟨ret_int (by unfold Bt.sign; rw [if_pos (.inl h0)]), rfl⟩
  · by_cases h1 : 31 < many
    · go_enter Try.func42, Try.ntmps42
      go_wp2
      go_ret
      exact ⟨ret_int (by unfold Bt.sign; rw [if_pos (.inr h1)]), rfl⟩
    · go_enter Try.func42, Try.ntmps42
      go_wp2
      go_ret
      exact ⟨ret_int (Bt.sign_fin hv hv' (by omega) (by omega)), rfl⟩



end Bits
end Go.Proofs.Ytpdemjdjgehpgaa

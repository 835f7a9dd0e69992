/- Contracts of package bits: each function comes to the word that the plain law names. -/
import Derived.Test.YtfghlfolejpjjaaProg
import Derived.Test.YtfghlfolejpjjaaBt
import Derived.WalkKit
import Derived.WalkSpells
import Derived.WalkLawsBesides
import Derived.Lib.Hide
import Derived.Deep.QuietTactic
import Derived.BigQuiet
import Derived.Deep.RegionWith
namespace Go.Proofs.Ytfghlfolejpjjaa
open Go.RowKit

theorem ret_int {k : IntKind} {a b : Int} (h : a = b) : Ending.returned (.int k a) = .returned (.int k b) := by rw [h]

theorem max2_int (k k' : IntKind) (x y : Int) : Builtin.max2 (.int k x) (.int k' y) = pure (.int k (if x < y then y else x)) := by simp only [Builtin.max2, gt_iff_lt]
theorem min2_int (k k' : IntKind) (x y : Int) : Builtin.min2 (.int k x) (.int k' y) = pure (.int k (if y < x then y else x)) := by simp only [Builtin.min2]
theorem max_two (ats : Array TypeId) (ty : TypeId) (a b : Value) : Builtin.max_ ats ty #[a, b] = (Builtin.max2 a b >>= fun s => pure s) := by simp only [Builtin.max_, List.foldlM_cons, List.foldlM_nil]
theorem min_two (ats : Array TypeId) (ty : TypeId) (a b : Value) : Builtin.min_ ats ty #[a, b] = (Builtin.min2 a b >>= fun s => pure s) := by simp only [Builtin.min_, List.foldlM_cons, List.foldlM_nil]
attribute [local go_sem] max2_int min2_int max_two min_two

/-- A contract that leaves the world alone, met inside a region that draws. -/
theorem quiet_is {P : Program} {f : FuncId} {args : Array Value} {w : World} {n : Nat} {v : Value}
    (h : Calls P f args (w.drewN n) fun e w' => e = .returned v ∧ w.drewN n = w') : Calls P f args (w.drewN n) fun e w'' => e = .returned v ∧ ∃ m, w'' = w.drewN m :=
  h.mono fun _ _ ⟨he, hm⟩ => ⟨he, n, hm.symm⟩
theorem quiet_add {P : Program} {f : FuncId} {args : Array Value} {w : World} {a n : Nat} {v : Value}
    (h : Calls P f args (w.drewN (a + n)) fun e w' => e = .returned v ∧ ∃ m, w' = (w.drewN (a + n)).drewN m) :
    Calls P f args (w.drewN (a + n)) fun e w'' => e = .returned v ∧ ∃ m, w'' = w.drewN (a + m) :=
  h.mono fun _ _ ⟨he, m, hm⟩ => ⟨he, n + m, by rw [hm, World.drewN_drewN, Nat.add_assoc]⟩
theorem quiet_add_is {P : Program} {f : FuncId} {args : Array Value} {w : World} {a n : Nat} {v : Value}
    (h : Calls P f args (w.drewN (a + n)) fun e w' => e = .returned v ∧ w.drewN (a + n) = w') :
    Calls P f args (w.drewN (a + n)) fun e w'' => e = .returned v ∧ ∃ m, w'' = w.drewN (a + m) :=
  h.mono fun _ _ ⟨he, hm⟩ => ⟨he, n, hm.symm⟩
theorem below_drewN (w : World) (n : Nat) : Below w.heap.size w (w.drewN n) := ⟨rfl, rfl, rfl, Nat.le_refl _, fun _ _ => rfl⟩
theorem below_step {w a : World} (h : Below w.heap.size w a) (n : Nat) : Below w.heap.size w (a.drewN n) := h.trans ⟨rfl, rfl, rfl, Nat.le_refl _, fun _ _ => rfl⟩

namespace Bits
theorem mask_lo {n : Int} (h : n < 0) : (0 : Int) = Bt.mask n := by
  unfold Bt.mask; rw [show (min (max n 0) 32).toNat = 0 by omega]; rfl

theorem mask_hi {n : Int} (h : 32 < n) : (4294967295 : Int) = Bt.mask n := by
  unfold Bt.mask; rw [show (min (max n 0) 32).toNat = 32 by omega]; rfl

theorem mask_mid {n : Int} (h : 0 ≤ n) (h' : n ≤ 32) : IntKind.u64.wrap (IntKind.u64.wrap (2 ^ n.toNat) - 1) = Bt.mask n := by
  unfold Bt.mask; rw [show (min (max n 0) 32).toNat = n.toNat by omega]
  have p : (2 : Nat) ^ n.toNat ≤ 2 ^ 32 := Nat.pow_le_pow_right (by decide) (by omega)
  have q := Nat.two_pow_pos n.toNat
  have e : ((2 : Int) ^ n.toNat) = ((2 ^ n.toNat : Nat) : Int) := by simp
  rw [e, Bt.wrap_u64_id (x := ((2 ^ n.toNat : Nat) : Int)) (by omega) (by omega), Bt.wrap_u64_id (by omega) (by omega)]





theorem part_c (a b p : Int) (w : World) (ha : 0 ≤ a) (ha' : a < 4294967296) (hb : 0 ≤ b) (hb' : b < 4294967296) (hp : 0 ≤ p) (hp' : p < 4294967296) :
    Calls Try.prog 98 #[.int .u32 a, .int .u32 b, .int .u32 p] w fun e w' => e = .returned (.int .u32 (Bt.part a b p)) ∧ w = w' := by
  go_enter Try.func98, Try.ntmps98
  go_wp2
  go_ret
  exact ⟨ret_int (Bt.part_eq ha ha' hb hb' hp hp'), rfl⟩

theorem rotate_c (x k : Int) (w : World) (hx : 0 ≤ x) (hx' : x < 4294967296) :
    Calls Try.prog 100 #[.int .u32 x, .int .i64 k] w fun e w' => e = .returned (.int .u32 (Bt.turn x k)) ∧ w = w' := by
  have s0 : 0 ≤ bits .and .u64 (IntKind.u64.wrap k) 31 := by rw [Bt.and31]; omega
  have s1 : bits .and .u64 (IntKind.u64.wrap k) 31 ≤ 31 := by rw [Bt.and31]; omega
  go_enter Try.func100, Try.ntmps100
  go_wp2
  go_ret
  exact ⟨ret_int (Bt.turn_fin hx hx' k), rfl⟩

theorem turn_c (x k : Int) (w : World) (hx : 0 ≤ x) (hx' : x < 4294967296) :
    Calls Try.prog 99 #[.int .u32 x, .int .i64 k] w fun e w' => e = .returned (.int .u32 (Bt.turn x k)) ∧ w = w' := by
  go_enter Try.func99, Try.ntmps99
  go_wp2_with (go_at_call 100; refine (rotate_c _ _ _ hx hx').mono ?_; rintro e w' ⟨rfl, rfl⟩)
  go_ret
  exact ⟨ret_int (Bt.turn_tmod x k), rfl⟩
end Bits
end Go.Proofs.Ytfghlfolejpjjaa

/- Contracts of package walk: entries. -/
import Derived.Test.YtejgaldeamjplaaWalk
namespace Go.Proofs.Ytejgaldeamjplaa
open Go.RowKit
set_option linter.unusedVariables false
namespace Walk
theorem and_list {x m : Int} (ks : List Nat) (hx : 0 ≤ x) (hx' : x < 4294967296) (hm : 0 ≤ m) (hm' : m < 4294967296) (hk : ∀ i, i < 32 → Bt.tb m (i : Nat) = decide (i ∈ ks)) (hks : ∀ k, k ∈ ks → k < 32) :
    (bits .and .u32 x m != 0) = ks.any fun k => Bt.tb x (k : Nat) := by
  rw [and_any hx hx' hm hm', Bool.eq_iff_iff, List.any_eq_true, List.any_eq_true]
  constructor
  · rintro ⟨i, hi, hb⟩
    rw [hk i (List.mem_range.1 hi), Bool.and_eq_true, decide_eq_true_eq] at hb
    exact ⟨i, hb.2, hb.1⟩
  · rintro ⟨k, hkk, hb⟩
    refine ⟨k, List.mem_range.2 (hks k hkk), ?_⟩
    rw [hk k (hks k hkk), Bool.and_eq_true, decide_eq_true_eq]
    exact ⟨hb, hkk⟩
section
variable {x : Int} (hx : 0 ≤ x) (hx' : x < 4294967296)
include hx hx'
theorem m1 : (bits .and .u32 x 1 != 0) = Wk.bit x 0 := by
  rw [and_list [0] hx hx' (by decide) (by decide) (by decide) (by decide)]; simp [Wk.bit]
theorem m2 : (bits .and .u32 x 2 != 0) = Wk.bit x 1 := by
  rw [and_list [1] hx hx' (by decide) (by decide) (by decide) (by decide)]; simp [Wk.bit]
theorem m4 : (bits .and .u32 x 4 != 0) = Wk.bit x 2 := by
  rw [and_list [2] hx hx' (by decide) (by decide) (by decide) (by decide)]; simp [Wk.bit]
theorem m8 : (bits .and .u32 x 8 != 0) = Wk.bit x 3 := by
  rw [and_list [3] hx hx' (by decide) (by decide) (by decide) (by decide)]; simp [Wk.bit]
theorem m16 : (bits .and .u32 x 16 != 0) = Wk.bit x 4 := by
  rw [and_list [4] hx hx' (by decide) (by decide) (by decide) (by decide)]; simp [Wk.bit]
theorem m10 : (bits .and .u32 x 10 != 0) = Wk.isLeaf x := by
  rw [and_list [1, 3] hx hx' (by decide) (by decide) (by decide) (by decide)]; simp [Wk.bit, Wk.isLeaf]
theorem m18 : (bits .and .u32 x 262144 != 0) = Wk.bit x 18 := by
  rw [and_list [18] hx hx' (by decide) (by decide) (by decide) (by decide)]; simp [Wk.bit]
theorem m19 : (bits .and .u32 x 524288 != 0) = Wk.bit x 19 := by
  rw [and_list [19] hx hx' (by decide) (by decide) (by decide) (by decide)]; simp [Wk.bit]
theorem m18z : (bits .and .u32 x 262144 == 0) = !Wk.bit x 18 := by
  rw [← m18 hx hx', bne, Bool.not_not]
end
theorem below_al {w0 w : World} (h : Below w0.heap.size w0 w) (o : Obj) : Below w0.heap.size w0 (w.alloc o) := h.alloc h.size o
abbrev ebox (y x : Int) (b : Bool) : Obj := .cells #[.int .u32 y, .int .u32 x, .bool b] 67
abbrev abox (a : Wk.Ask) : Obj := .cells #[.int .u32 a.va, .int .u32 a.satp, .int .u32 a.status, .int .i64 a.access, .int .i64 a.priv] 34
abbrev askv (a : Wk.Ask) : Value := .agg #[.int .u32 a.va, .int .u32 a.satp, .int .u32 a.status, .int .i64 a.access, .int .i64 a.priv]
theorem has_c (x y m : Int) (b : Bool) (w : World) : Calls Try.prog 40 #[.agg #[.int .u32 y, .int .u32 x, .bool b], .int .u32 m] w fun e w' => e = .returned (.bool (bits .and .u32 x m != 0)) ∧ w.alloc (ebox y x b) = w' := by
  go_enter Try.func40, Try.ntmps40
  go_wp2
  go_ret
  exact ⟨rfl, rfl⟩
theorem frame_c (x y : Int) (b : Bool) (w : World) (hx : 0 ≤ x) (hx' : x < 4294967296) : Calls Try.prog 31 #[.agg #[.int .u32 y, .int .u32 x, .bool b]] w fun e w' => e = .returned (.int .u32 (Wk.frame x)) ∧ w.alloc (ebox y x b) = w' := by
  go_enter Try.func31, Try.ntmps31
  go_wp2_with (go_at_call 33; refine (Bits.field_c _ _ _ _ hx hx').mono ?_; rintro e w' ⟨rfl, rfl⟩)
  go_ret
  exact ⟨rfl, rfl⟩
theorem or_put {x : Int} (k : Nat) (hk : k < 32) (hx : 0 ≤ x) (hx' : x < 4294967296) {m : Int} (hm : 0 ≤ m) (hm' : m < 4294967296) (h : ∀ i, i < 32 → Bt.tb m (i : Nat) = decide (i = k)) : bits .or .u32 x m = Bt.put x k 1 1 := by
  obtain ⟨r0, r1⟩ := Bt.rng_or hx hx' hm hm'
  refine Bt.ext r0 r1 (Bt.put_rng _ _ _ _).1 (Bt.put_rng _ _ _ _).2 fun i hi hi' => ?_
  rw [Bt.tb_or hx hx' hm hm', Bt.tb_put hi hi']
  have := h i.toNat (by omega)
  rw [Int.toNat_of_nonneg hi] at this
  rw [this]
  by_cases e : i = (k : Int)
  · subst e
    rw [if_pos (by omega), show ((k : Int)).toNat = k by omega, decide_eq_true rfl, Bool.or_true, show (k : Int) - k = 0 by omega]
    rfl
  · rw [if_neg (by omega), decide_eq_false (by omega), Bool.or_false]
theorem marked_2 (x y : Int) (b : Bool) (w : World) (hx : 0 ≤ x) (hx' : x < 4294967296) : Calls Try.prog 30 #[.agg #[.int .u32 y, .int .u32 x, .bool b], .int .i64 2] w fun e w' => e = .returned (.int .u32 (Wk.marked x 2)) ∧ w.alloc (ebox y x b) = w' := by
  go_enter Try.func30, Try.ntmps30
  go_wp2
  go_ret
  obtain ⟨r0, r1⟩ := Bt.rng_or hx hx' (y := 64) (by decide) (by decide)
  refine ⟨ret_int ?_, rfl⟩
  have e1 := or_put 6 (by decide) hx hx' (m := 64) (by decide) (by decide) (by decide)
  have e2 := or_put 7 (by decide) r0 r1 (m := 128) (by decide) (by decide) (by decide)
  rw [e2, e1]; rfl
theorem marked_0 (x y c : Int) (b : Bool) (w : World) (hx : 0 ≤ x) (hx' : x < 4294967296) (hc : (c == 2) = false) : Calls Try.prog 30 #[.agg #[.int .u32 y, .int .u32 x, .bool b], .int .i64 c] w fun e w' => e = .returned (.int .u32 (Wk.marked x c)) ∧ w.alloc (ebox y x b) = w' := by
  go_enter Try.func30, Try.ntmps30
  go_wp2
  go_ret
  refine ⟨ret_int ?_, rfl⟩
  have e1 := or_put 6 (by decide) hx hx' (m := 64) (by decide) (by decide) (by decide)
  rw [e1]; unfold Wk.marked; rw [if_neg (by simpa using hc)]; rfl
theorem marked_c (x y c : Int) (b : Bool) (w : World) (hx : 0 ≤ x) (hx' : x < 4294967296) : Calls Try.prog 30 #[.agg #[.int .u32 y, .int .u32 x, .bool b], .int .i64 c] w fun e w' => e = .returned (.int .u32 (Wk.marked x c)) ∧ w.alloc (ebox y x b) = w' := by
  by_cases h : c = 2
  · subst h; exact marked_2 x y b w hx hx'
  · exact marked_0 x y c b w hx hx' (by simpa using h)
theorem frame_low {x : Int} (hx : 0 ≤ x) (hx' : x < 4294967296) : (bits .and .u32 (Wk.frame x) 1023 != 0) = !decide (Bt.field x 10 10 = 0) := by
  have e : bits .and .u32 (Wk.frame x) 1023 = Bt.field x 10 10 := by
    have hf := Bt.field_rng x 10 22
    obtain ⟨r0, r1⟩ := Bt.rng_and hf.1 hf.2 (y := 1023) (by decide) (by decide)
    refine Bt.ext r0 r1 (Bt.field_rng _ _ _).1 (Bt.field_rng _ _ _).2 fun i hi hi' => ?_
    rw [show Wk.frame x = Bt.field x 10 22 from rfl, Bt.tb_and hf.1 hf.2 (by decide) (by decide), Bt.tb_field hi hi', Bt.tb_field hi hi']
    have : ∀ j : Nat, j < 32 → Bt.tb 1023 j = decide (j < 10) := by decide
    have := this i.toNat (by omega)
    rw [Int.toNat_of_nonneg hi] at this
    rw [this]
    by_cases h : i < 10
    · rw [decide_eq_true (show i.toNat < 10 by omega), decide_eq_true h, decide_eq_true (show i < 22 by omega), Bool.and_true]
    · rw [decide_eq_false (show ¬ i.toNat < 10 by omega), decide_eq_false h, Bool.and_false, Bool.false_and]
  rw [e, bne]; congr 1
end Walk
end Go.Proofs.Ytejgaldeamjplaa

/- Contracts of the reference of package walk. -/
import Derived.Test.YtejgaldeamjplaaWalkTo
namespace Go.Proofs.Ytejgaldeamjplaa
open Go.RowKit
set_option linter.unusedVariables false
/-- Words of a slice, wherever they lie. -/
structure Wd (w : World) (a : Option Addr) (n cap : Nat) (zs : List Int) : Prop where
  len : zs.length = n
  le : n ≤ cap
  is : (a = none ∧ n = 0 ∧ cap = 0) ∨ ∃ ad, a = some ad ∧ ∀ i, i < n → ∃ b off, ad = ⟨b, off, none⟩ ∧ w.cell? ⟨b, off + i, none⟩ = some (.int .u32 (zs.getD i 0))
  z0 : ∀ i : Nat, 0 ≤ zs.getD i 0 ∧ zs.getD i 0 < 4294967296
theorem Wd.at_ {w : World} {a : Option Addr} {n cap : Nat} {zs : List Int} (h : Wd w a n cap zs) {i : Nat} (hi : i < n) : ∃ b off, a = some ⟨b, off, none⟩ ∧ ∀ i, i < n → w.cell? ⟨b, off + i, none⟩ = some (.int .u32 (zs.getD i 0)) := by
  rcases h.is with ⟨_, e, _⟩ | ⟨ad, rfl, hc⟩
  · omega
  · obtain ⟨b, off, rfl, _⟩ := hc i hi
    refine ⟨b, off, rfl, fun j hj => ?_⟩
    obtain ⟨b', off', e, hv⟩ := hc j hj
    cases e
    exact hv
theorem Wd.below {w w' : World} {a : Option Addr} {n cap : Nat} {zs : List Int} (h : Wd w a n cap zs) (hb : Below w.heap.size w w') : Wd w' a n cap zs := by
  refine ⟨h.len, h.le, h.is.elim .inl fun ⟨ad, e, hc⟩ => .inr ⟨ad, e, fun i hi => ?_⟩, h.z0⟩
  obtain ⟨b, off, e, hv⟩ := hc i hi
  exact ⟨b, off, e, (hb.cell (World.block_lt_of_cell? w _ hv)).trans hv⟩
namespace Ref15
theorem bit_c (x i : Int) (w : World) (hx : 0 ≤ x) (hx' : x < 4294967296) (hi : 0 ≤ i) (hi' : i < 32) : Calls Try.prog 21 #[.int .u32 x, .int .i64 i] w fun e w' => e = .returned (.bool (Wk.bit x i)) ∧ w = w' := by
  have e : Hid (Bt.field x i 1 = if Wk.bit x i then 1 else 0) := by
    show _ = _
    refine Bt.ext (Bt.field_rng _ _ _).1 (Bt.field_rng _ _ _).2 (by split <;> decide) (by split <;> decide) fun j hj hj' => ?_
    rw [Bt.tb_field hj hj']
    unfold Wk.bit
    by_cases h0 : j = 0
    · subst h0
      rw [decide_eq_true (by decide), Bool.true_and, show i + 0 = i by omega]
      cases Bt.tb x i <;> decide
    · rw [decide_eq_false (by omega), Bool.false_and]
      have : ∀ k : Nat, k < 32 → ¬ k = 0 → Bt.tb 1 k = false := by decide
      have h1 := this j.toNat (by omega) (by omega)
      rw [Int.toNat_of_nonneg hj] at h1
      cases Bt.tb x i
      · exact (Bt.tb_zero j).symm
      · exact h1.symm
  have hi2 : Hid (-9223372036854775808 ≤ i) := by show _ ≤ _; omega
  cases hb : Wk.bit x i
  · rw [hb] at e
    have e' : Hid (Bt.field x i 1 = 0) := e
    clear e
    go_enter Try.func21, Try.ntmps21
    go_wp2_with (go_at_call 22; refine (Ref1.field_c _ _ _ _ hx hx' hi2).mono ?_; rw [e'.out]; rintro e w' ⟨rfl, rfl⟩)
    go_ret
    exact ⟨rfl, rfl⟩
  · rw [hb] at e
    have e' : Hid (Bt.field x i 1 = 1) := e
    clear e
    go_enter Try.func21, Try.ntmps21
    go_wp2_with (go_at_call 22; refine (Ref1.field_c _ _ _ _ hx hx' hi2).mono ?_; rw [e'.out]; rintro e w' ⟨rfl, rfl⟩)
    go_ret
    exact ⟨rfl, rfl⟩
set_option maxRecDepth 100000 in
theorem cause_c (c : Int) (p : Bool) (w : World) (hc : c = 0 ∨ c = 1 ∨ c = 2) : Calls Try.prog 36 #[.int .i64 c, .bool p] w fun e w' => e = .returned (.int .u32 (Wk.cause c p)) ∧ Below w.heap.size w w' := by
  rcases hc with rfl | rfl | rfl <;> cases p
  all_goals
    go_enter Try.func36, Try.ntmps36
    go_wp2
    go_ret
    refine ⟨rfl, ?_⟩
    repeat (first | exact Below.refl _ _ | apply Walk.below_al)
def hit (base x : Int) (i : Nat) : Prop := x < 4294967296 ∧ x % 4 = 0 ∧ base + 4 * (i : Int) = x
theorem place_hit {base x : Int} {n i : Nat} (hi : i < n) (h : hit base x i) : Wk.place base n x = some i := Wk.place_of hi h.2.2.symm h.1 h.2.1
theorem place_miss {base x : Int} {n : Nat} (h : ∀ i, i < n → ¬ hit base x i) : Wk.place base n x = none := by
  cases hp : Wk.place base n x with
  | none => rfl
  | some i =>
    obtain ⟨h1, h2, h3, h4, _⟩ := Wk.place_lt hp
    exact absurd ⟨h3, h4, h2.symm⟩ (h i h1)
set_option maxHeartbeats 1000000 in
set_option maxRecDepth 100000 in
theorem place_c {w : World} {a : Option Addr} {n cap : Nat} {base x : Int} (h : n ≤ 4096) (hb : 0 ≤ base) (hb' : base < 4294967296) (hx : 0 ≤ x) (hx' : x < 1000000000000) {v : Int} (q : Hid ((match Wk.place base n x with | some i => (i : Int) | none => -1) = v)) :
    Calls Try.prog 23 #[.agg #[.int .u32 base, .slice a n cap], .int .u64 x] w fun e w' => e = .returned (.int .i64 v) ∧ Below w.heap.size w w' := by
  have hn : (n : Int) ≤ 4096 := by omega
  have BB := Lib.hid (alloc1_below w (.cells #[.int .u32 base, .slice a n cap] 25))
  go_enter Try.func23, Try.ntmps23
  go_wp2
  go_loop [5] (fun i => ∃ j : Nat, j ≤ n ∧ i = .int .i64 j ∧ Hid (∀ i, i < j → ¬ hit base x i)) (fun i => n - (intOf i).toNat)
  case atStart => exact ⟨0, Nat.zero_le _, rfl, fun i hi => absurd hi (by omega)⟩
  case round =>
    obtain ⟨j, hj, rfl, HR⟩ := hrel
    by_cases hlt : j < n
    · have hlt2 : (j : Int) < (n : Int) := by omega
      by_cases hx32 : x < 4294967296
      · by_cases t1 : x = (base + 4 * (j : Int)) % 4294967296
        · have e1 : (x == (base + 4 * (j : Int)) % 4294967296) = true := by rw [beq_iff_eq]; exact t1
          by_cases t2 : x % 4 = 0
          · have e2 : (x % 4 == 0) = true := by rw [beq_iff_eq]; exact t2
            by_cases t3 : base + 4 * (j : Int) = x
            · have e3 : (base + 4 * (j : Int) == x) = true := by rw [beq_iff_eq]; exact t3
              have HX : Hid (hit base x j) := ⟨hx32, t2, t3⟩
              clear t1 t2 t3
              go_wp2
              go_ret
              have := place_hit hlt HX.out
              rw [← q.out, this]
              exact ⟨rfl, BB.out⟩
            · have e3 : (base + 4 * (j : Int) == x) = false := by rw [beq_eq_false_iff_ne]; exact t3
              have HX : Hid (¬ hit base x j) := fun h => t3 h.2.2
              clear t1 t2 t3
              go_wp2
              go_round
              case rel => exact ⟨j + 1, by omega, by go_num, fun i hi => (by by_cases e : i = j; exact e ▸ HX.out; exact HR.out i (by omega))⟩
              case measure => simp [intOf]; omega
          · have e2 : (x % 4 == 0) = false := by rw [beq_eq_false_iff_ne]; exact t2
            have HX : Hid (¬ hit base x j) := fun h => t2 h.2.1
            clear t1 t2
            go_wp2
            go_round
            case rel => exact ⟨j + 1, by omega, by go_num, fun i hi => (by by_cases e : i = j; exact e ▸ HX.out; exact HR.out i (by omega))⟩
            case measure => simp [intOf]; omega
        · have e1 : (x == (base + 4 * (j : Int)) % 4294967296) = false := by rw [beq_eq_false_iff_ne]; exact t1
          have HX : Hid (¬ hit base x j) := fun h => t1 (by have := h.1; have := h.2.2; omega)
          clear t1
          go_wp2
          go_round
          case rel => exact ⟨j + 1, by omega, by go_num, fun i hi => (by by_cases e : i = j; exact e ▸ HX.out; exact HR.out i (by omega))⟩
          case measure => simp [intOf]; omega
      · have HX : Hid (¬ hit base x j) := fun h => hx32 h.1
        go_wp2
        go_round
        case rel => exact ⟨j + 1, by omega, by go_num, fun i hi => (by by_cases e : i = j; exact e ▸ HX.out; exact HR.out i (by omega))⟩
        case measure => simp [intOf]; omega
    · obtain rfl : j = n := by omega
      have hlt2 : (j : Int) ≤ (j : Int) := Int.le_refl _
      go_wp2
      go_ret
      have := place_miss HR.out
      rw [← q.out, this]
      exact ⟨rfl, BB.out⟩
end Ref15
end Go.Proofs.Ytejgaldeamjplaa

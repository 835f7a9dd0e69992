/- Contracts of dioptraref11: the small functions. -/
import Derived.Test.YtpdemjdjgehpgaaDwd
import Derived.Test.YtpdemjdjgehpgaaDcL
import Derived.Test.YtpdemjdjgehpgaaRef1
namespace Go.Proofs.Ytpdemjdjgehpgaa
open Go.RowKit Dc
set_option linter.unusedVariables false
set_option linter.unusedSimpArgs false
namespace Rf
open Dec
/-- The patterns in memory. -/
def flat1 : List (Int × Nat) → List Value
  | [] => []
  | p :: l => .int .u32 p.1 :: flat1 l
theorem flat1_get : ∀ (l : List (Int × Nat)) (i : Nat), i < l.length → (flat1 l)[i]? = some (.int .u32 (l.getD i (0, 0)).1)
  | [], i, h => absurd h (by simp)
  | p :: l, 0, _ => rfl
  | p :: l, i + 1, h => by
    have ih := flat1_get l i (by simpa using h)
    simp only [flat1]; simpa using ih
def Pts (w : World) (g : Nat) : Prop := ∀ i, i < 69 → w.cell? ⟨g, i, none⟩ = some (.int .u32 (row i).1)
theorem Pts.below {w w' : World} {g : Nat} (h : Pts w g) (hb : Below w.heap.size w w') : Pts w' g := fun i hi => below_cell hb (h i hi)
theorem pts_new {w : World} (t : TypeId) : Pts (w.alloc (.cells (flat1 rows).toArray t)) w.heap.size := by
  have h := heap_alloc_new w (.cells (flat1 rows).toArray t)
  intro i hi
  have e0 := flat1_get rows i (by rw [rows_len]; exact hi)
  simp only [World.cell?, h]
  simpa [row] using e0
set_option maxHeartbeats 4000000 in
set_option maxRecDepth 100000 in
theorem patterns_c (w : World) : Calls Try.prog 21 #[] w fun e w' => ∃ g, e = .returned (.slice (some ⟨g, 0, none⟩) 69 69) ∧ Pts w' g ∧ Below w.heap.size w w' := by
  go_enter Try.func21, Try.ntmps21
  go_wp2
  go_ret
  exact ⟨_, rfl, pts_new _, below_al (Below.refl _ _) _⟩
def forms : ByteArray := ⟨(rows.map fun r => r.2.toUInt8).toArray⟩
theorem forms_c (w : World) : Calls Try.prog 22 #[] w fun e w' => e = .returned (.string forms) ∧ w' = w := by
  go_enter Try.func22, Try.ntmps22
  go_wp2
  go_ret
  exact ⟨rfl, rfl⟩
theorem small_c (n : Int) (w : World) : Calls Try.prog 31 #[.int .i64 n] w fun e w' => e = .returned (.bool (decide (0 ≤ n) && decide (n < 32))) ∧ w' = w := by
  go_enter Try.func31, Try.ntmps31
  go_wp2
  · have h : 0 ≤ n := by assumption
    go_ret
    exact ⟨by rw [decide_eq_true h]; rfl, rfl⟩
  · have h : ¬ 0 ≤ n := by omega
    go_ret
    exact ⟨by rw [decide_eq_false h]; rfl, rfl⟩
theorem part_c (x a m t : Int) (w : World) (hx : 0 ≤ x) (hx' : x < 4294967296) (ha : 0 ≤ a) (ht : 0 ≤ t) :
    Calls Try.prog 33 #[.int .u32 x, .int .i64 a, .int .i64 m, .int .i64 t] w fun e w' => e = .returned (.int .u32 (pt x a m t)) ∧ w' = w := by
  have fr := Bt.field_rng x a m
  have HA : Hid (-9223372036854775808 ≤ a) := by show _ ≤ _; omega
  have HT : Hid (-9223372036854775808 ≤ t) := by show _ ≤ _; omega
  go_enter Try.func33, Try.ntmps33
  go_wp2_with (first | (go_at_call 27; refine (Ref1.field_c _ _ _ _ hx hx' HA).mono ?_; rintro e w' ⟨rfl, rfl⟩) | (go_at_call 41; refine (Ref1.put_c _ _ _ _ _ (by omega) (by omega) fr.1 fr.2 HT).mono ?_; rintro e w' ⟨rfl, rfl⟩))
  go_ret
  exact ⟨rfl, rfl⟩
theorem mask_85 (w : World) : Calls Try.prog 24 #[.int .u8 85] w fun e w' => e = .returned (.int .u32 (frm 85).mask) ∧ w' = w := by
  go_enter Try.func24, Try.ntmps24
  go_wp2
  go_ret
  exact ⟨rfl, rfl⟩
theorem imm_85 (x : Int) (w : World) (hx : 0 ≤ x) (hx' : x < 4294967296) : Calls Try.prog 25 #[.int .u32 x, .int .u8 85] w fun e w' => e = .returned (.int .u32 (immR 85 x)) ∧ w' = w := by
  go_enter Try.func25, Try.ntmps25
  go_wp2_with (first | (go_at_call 33; refine (part_c _ _ _ _ _ hx hx' (by decide) (by decide)).mono ?_; rintro e w' ⟨rfl, rfl⟩) | (go_at_call 36; refine (Ref1.sign_c _ _ _ (by first | with_reducible exact (pt_rng _ _ _ _).1 | exact Int.emod_nonneg _ (by decide)) (by first | with_reducible exact (pt_rng _ _ _ _).2 | exact Int.emod_lt_of_pos _ (by decide))).mono ?_; rintro e w' ⟨rfl, rfl⟩))
  go_ret
  exact ⟨rfl, rfl⟩
theorem mask_74 (w : World) : Calls Try.prog 24 #[.int .u8 74] w fun e w' => e = .returned (.int .u32 (frm 74).mask) ∧ w' = w := by
  go_enter Try.func24, Try.ntmps24
  go_wp2
  go_ret
  exact ⟨rfl, rfl⟩
theorem imm_74 (x : Int) (w : World) (hx : 0 ≤ x) (hx' : x < 4294967296) : Calls Try.prog 25 #[.int .u32 x, .int .u8 74] w fun e w' => e = .returned (.int .u32 (immR 74 x)) ∧ w' = w := by
  have e4 : immR 74 x = Bt.sign ((pt x 31 1 20 + pt x 12 8 12 + pt x 20 1 11 + pt x 21 10 1) % 4294967296) 21 := by show Bt.sign (add (add (add _ _) _) _) 21 = _; rw [add4]
  rw [e4]
  go_enter Try.func25, Try.ntmps25
  go_wp2_with (first | (go_at_call 33; refine (part_c _ _ _ _ _ hx hx' (by decide) (by decide)).mono ?_; rintro e w' ⟨rfl, rfl⟩) | (go_at_call 36; refine (Ref1.sign_c _ _ _ (by first | with_reducible exact (pt_rng _ _ _ _).1 | exact Int.emod_nonneg _ (by decide)) (by first | with_reducible exact (pt_rng _ _ _ _).2 | exact Int.emod_lt_of_pos _ (by decide))).mono ?_; rintro e w' ⟨rfl, rfl⟩))
  go_ret
  exact ⟨rfl, rfl⟩
theorem mask_73 (w : World) : Calls Try.prog 24 #[.int .u8 73] w fun e w' => e = .returned (.int .u32 (frm 73).mask) ∧ w' = w := by
  go_enter Try.func24, Try.ntmps24
  go_wp2
  go_ret
  exact ⟨rfl, rfl⟩
theorem imm_73 (x : Int) (w : World) (hx : 0 ≤ x) (hx' : x < 4294967296) : Calls Try.prog 25 #[.int .u32 x, .int .u8 73] w fun e w' => e = .returned (.int .u32 (immR 73 x)) ∧ w' = w := by
  go_enter Try.func25, Try.ntmps25
  go_wp2_with (first | (go_at_call 33; refine (part_c _ _ _ _ _ hx hx' (by decide) (by decide)).mono ?_; rintro e w' ⟨rfl, rfl⟩) | (go_at_call 36; refine (Ref1.sign_c _ _ _ (by first | with_reducible exact (pt_rng _ _ _ _).1 | exact Int.emod_nonneg _ (by decide)) (by first | with_reducible exact (pt_rng _ _ _ _).2 | exact Int.emod_lt_of_pos _ (by decide))).mono ?_; rintro e w' ⟨rfl, rfl⟩))
  go_ret
  exact ⟨rfl, rfl⟩
theorem mask_66 (w : World) : Calls Try.prog 24 #[.int .u8 66] w fun e w' => e = .returned (.int .u32 (frm 66).mask) ∧ w' = w := by
  go_enter Try.func24, Try.ntmps24
  go_wp2
  go_ret
  exact ⟨rfl, rfl⟩
theorem imm_66 (x : Int) (w : World) (hx : 0 ≤ x) (hx' : x < 4294967296) : Calls Try.prog 25 #[.int .u32 x, .int .u8 66] w fun e w' => e = .returned (.int .u32 (immR 66 x)) ∧ w' = w := by
  have e4 : immR 66 x = Bt.sign ((pt x 31 1 12 + pt x 7 1 11 + pt x 25 6 5 + pt x 8 4 1) % 4294967296) 13 := by show Bt.sign (add (add (add _ _) _) _) 13 = _; rw [add4]
  rw [e4]
  go_enter Try.func25, Try.ntmps25
  go_wp2_with (first | (go_at_call 33; refine (part_c _ _ _ _ _ hx hx' (by decide) (by decide)).mono ?_; rintro e w' ⟨rfl, rfl⟩) | (go_at_call 36; refine (Ref1.sign_c _ _ _ (by first | with_reducible exact (pt_rng _ _ _ _).1 | exact Int.emod_nonneg _ (by decide)) (by first | with_reducible exact (pt_rng _ _ _ _).2 | exact Int.emod_lt_of_pos _ (by decide))).mono ?_; rintro e w' ⟨rfl, rfl⟩))
  go_ret
  exact ⟨rfl, rfl⟩
theorem mask_83 (w : World) : Calls Try.prog 24 #[.int .u8 83] w fun e w' => e = .returned (.int .u32 (frm 83).mask) ∧ w' = w := by
  go_enter Try.func24, Try.ntmps24
  go_wp2
  go_ret
  exact ⟨rfl, rfl⟩
theorem imm_83 (x : Int) (w : World) (hx : 0 ≤ x) (hx' : x < 4294967296) : Calls Try.prog 25 #[.int .u32 x, .int .u8 83] w fun e w' => e = .returned (.int .u32 (immR 83 x)) ∧ w' = w := by
  go_enter Try.func25, Try.ntmps25
  go_wp2_with (first | (go_at_call 33; refine (part_c _ _ _ _ _ hx hx' (by decide) (by decide)).mono ?_; rintro e w' ⟨rfl, rfl⟩) | (go_at_call 36; refine (Ref1.sign_c _ _ _ (by first | with_reducible exact (pt_rng _ _ _ _).1 | exact Int.emod_nonneg _ (by decide)) (by first | with_reducible exact (pt_rng _ _ _ _).2 | exact Int.emod_lt_of_pos _ (by decide))).mono ?_; rintro e w' ⟨rfl, rfl⟩))
  go_ret
  exact ⟨rfl, rfl⟩
theorem mask_82 (w : World) : Calls Try.prog 24 #[.int .u8 82] w fun e w' => e = .returned (.int .u32 (frm 82).mask) ∧ w' = w := by
  go_enter Try.func24, Try.ntmps24
  go_wp2
  go_ret
  exact ⟨rfl, rfl⟩
theorem imm_82 (x : Int) (w : World) (hx : 0 ≤ x) (hx' : x < 4294967296) : Calls Try.prog 25 #[.int .u32 x, .int .u8 82] w fun e w' => e = .returned (.int .u32 (immR 82 x)) ∧ w' = w := by
  go_enter Try.func25, Try.ntmps25
  go_wp2_with (first | (go_at_call 33; refine (part_c _ _ _ _ _ hx hx' (by decide) (by decide)).mono ?_; rintro e w' ⟨rfl, rfl⟩) | (go_at_call 36; refine (Ref1.sign_c _ _ _ (by first | with_reducible exact (pt_rng _ _ _ _).1 | exact Int.emod_nonneg _ (by decide)) (by first | with_reducible exact (pt_rng _ _ _ _).2 | exact Int.emod_lt_of_pos _ (by decide))).mono ?_; rintro e w' ⟨rfl, rfl⟩))
  go_ret
  exact ⟨rfl, rfl⟩
theorem mask_72 (w : World) : Calls Try.prog 24 #[.int .u8 72] w fun e w' => e = .returned (.int .u32 (frm 72).mask) ∧ w' = w := by
  go_enter Try.func24, Try.ntmps24
  go_wp2
  go_ret
  exact ⟨rfl, rfl⟩
theorem imm_72 (x : Int) (w : World) (hx : 0 ≤ x) (hx' : x < 4294967296) : Calls Try.prog 25 #[.int .u32 x, .int .u8 72] w fun e w' => e = .returned (.int .u32 (immR 72 x)) ∧ w' = w := by
  go_enter Try.func25, Try.ntmps25
  go_wp2_with (first | (go_at_call 33; refine (part_c _ _ _ _ _ hx hx' (by decide) (by decide)).mono ?_; rintro e w' ⟨rfl, rfl⟩) | (go_at_call 36; refine (Ref1.sign_c _ _ _ (by first | with_reducible exact (pt_rng _ _ _ _).1 | exact Int.emod_nonneg _ (by decide)) (by first | with_reducible exact (pt_rng _ _ _ _).2 | exact Int.emod_lt_of_pos _ (by decide))).mono ?_; rintro e w' ⟨rfl, rfl⟩))
  go_ret
  exact ⟨rfl, rfl⟩
theorem mask_65 (w : World) : Calls Try.prog 24 #[.int .u8 65] w fun e w' => e = .returned (.int .u32 (frm 65).mask) ∧ w' = w := by
  go_enter Try.func24, Try.ntmps24
  go_wp2
  go_ret
  exact ⟨rfl, rfl⟩
theorem imm_65 (x : Int) (w : World) (hx : 0 ≤ x) (hx' : x < 4294967296) : Calls Try.prog 25 #[.int .u32 x, .int .u8 65] w fun e w' => e = .returned (.int .u32 (immR 65 x)) ∧ w' = w := by
  go_enter Try.func25, Try.ntmps25
  go_wp2_with (first | (go_at_call 33; refine (part_c _ _ _ _ _ hx hx' (by decide) (by decide)).mono ?_; rintro e w' ⟨rfl, rfl⟩) | (go_at_call 36; refine (Ref1.sign_c _ _ _ (by first | with_reducible exact (pt_rng _ _ _ _).1 | exact Int.emod_nonneg _ (by decide)) (by first | with_reducible exact (pt_rng _ _ _ _).2 | exact Int.emod_lt_of_pos _ (by decide))).mono ?_; rintro e w' ⟨rfl, rfl⟩))
  go_ret
  exact ⟨rfl, rfl⟩
theorem mask_76 (w : World) : Calls Try.prog 24 #[.int .u8 76] w fun e w' => e = .returned (.int .u32 (frm 76).mask) ∧ w' = w := by
  go_enter Try.func24, Try.ntmps24
  go_wp2
  go_ret
  exact ⟨rfl, rfl⟩
theorem imm_76 (x : Int) (w : World) (hx : 0 ≤ x) (hx' : x < 4294967296) : Calls Try.prog 25 #[.int .u32 x, .int .u8 76] w fun e w' => e = .returned (.int .u32 (immR 76 x)) ∧ w' = w := by
  go_enter Try.func25, Try.ntmps25
  go_wp2_with (first | (go_at_call 33; refine (part_c _ _ _ _ _ hx hx' (by decide) (by decide)).mono ?_; rintro e w' ⟨rfl, rfl⟩) | (go_at_call 36; refine (Ref1.sign_c _ _ _ (by first | with_reducible exact (pt_rng _ _ _ _).1 | exact Int.emod_nonneg _ (by decide)) (by first | with_reducible exact (pt_rng _ _ _ _).2 | exact Int.emod_lt_of_pos _ (by decide))).mono ?_; rintro e w' ⟨rfl, rfl⟩))
  go_ret
  exact ⟨rfl, rfl⟩
theorem mask_70 (w : World) : Calls Try.prog 24 #[.int .u8 70] w fun e w' => e = .returned (.int .u32 (frm 70).mask) ∧ w' = w := by
  go_enter Try.func24, Try.ntmps24
  go_wp2
  go_ret
  exact ⟨rfl, rfl⟩
theorem imm_70 (x : Int) (w : World) (hx : 0 ≤ x) (hx' : x < 4294967296) : Calls Try.prog 25 #[.int .u32 x, .int .u8 70] w fun e w' => e = .returned (.int .u32 (immR 70 x)) ∧ w' = w := by
  go_enter Try.func25, Try.ntmps25
  go_wp2_with (first | (go_at_call 33; refine (part_c _ _ _ _ _ hx hx' (by decide) (by decide)).mono ?_; rintro e w' ⟨rfl, rfl⟩) | (go_at_call 36; refine (Ref1.sign_c _ _ _ (by first | with_reducible exact (pt_rng _ _ _ _).1 | exact Int.emod_nonneg _ (by decide)) (by first | with_reducible exact (pt_rng _ _ _ _).2 | exact Int.emod_lt_of_pos _ (by decide))).mono ?_; rintro e w' ⟨rfl, rfl⟩))
  go_ret
  exact ⟨rfl, rfl⟩
theorem mask_69 (w : World) : Calls Try.prog 24 #[.int .u8 69] w fun e w' => e = .returned (.int .u32 (frm 69).mask) ∧ w' = w := by
  go_enter Try.func24, Try.ntmps24
  go_wp2
  go_ret
  exact ⟨rfl, rfl⟩
theorem imm_69 (x : Int) (w : World) (hx : 0 ≤ x) (hx' : x < 4294967296) : Calls Try.prog 25 #[.int .u32 x, .int .u8 69] w fun e w' => e = .returned (.int .u32 (immR 69 x)) ∧ w' = w := by
  go_enter Try.func25, Try.ntmps25
  go_wp2_with (first | (go_at_call 33; refine (part_c _ _ _ _ _ hx hx' (by decide) (by decide)).mono ?_; rintro e w' ⟨rfl, rfl⟩) | (go_at_call 36; refine (Ref1.sign_c _ _ _ (by first | with_reducible exact (pt_rng _ _ _ _).1 | exact Int.emod_nonneg _ (by decide)) (by first | with_reducible exact (pt_rng _ _ _ _).2 | exact Int.emod_lt_of_pos _ (by decide))).mono ?_; rintro e w' ⟨rfl, rfl⟩))
  go_ret
  exact ⟨rfl, rfl⟩
theorem mask_86 (w : World) : Calls Try.prog 24 #[.int .u8 86] w fun e w' => e = .returned (.int .u32 (frm 86).mask) ∧ w' = w := by
  go_enter Try.func24, Try.ntmps24
  go_wp2
  go_ret
  exact ⟨rfl, rfl⟩
theorem imm_86 (x : Int) (w : World) (hx : 0 ≤ x) (hx' : x < 4294967296) : Calls Try.prog 25 #[.int .u32 x, .int .u8 86] w fun e w' => e = .returned (.int .u32 (immR 86 x)) ∧ w' = w := by
  go_enter Try.func25, Try.ntmps25
  go_wp2_with (first | (go_at_call 33; refine (part_c _ _ _ _ _ hx hx' (by decide) (by decide)).mono ?_; rintro e w' ⟨rfl, rfl⟩) | (go_at_call 36; refine (Ref1.sign_c _ _ _ (by first | with_reducible exact (pt_rng _ _ _ _).1 | exact Int.emod_nonneg _ (by decide)) (by first | with_reducible exact (pt_rng _ _ _ _).2 | exact Int.emod_lt_of_pos _ (by decide))).mono ?_; rintro e w' ⟨rfl, rfl⟩))
  go_ret
  exact ⟨rfl, rfl⟩
theorem mask_67 (w : World) : Calls Try.prog 24 #[.int .u8 67] w fun e w' => e = .returned (.int .u32 (frm 67).mask) ∧ w' = w := by
  go_enter Try.func24, Try.ntmps24
  go_wp2
  go_ret
  exact ⟨rfl, rfl⟩
theorem imm_67 (x : Int) (w : World) (hx : 0 ≤ x) (hx' : x < 4294967296) : Calls Try.prog 25 #[.int .u32 x, .int .u8 67] w fun e w' => e = .returned (.int .u32 (immR 67 x)) ∧ w' = w := by
  go_enter Try.func25, Try.ntmps25
  go_wp2_with (first | (go_at_call 33; refine (part_c _ _ _ _ _ hx hx' (by decide) (by decide)).mono ?_; rintro e w' ⟨rfl, rfl⟩) | (go_at_call 36; refine (Ref1.sign_c _ _ _ (by first | with_reducible exact (pt_rng _ _ _ _).1 | exact Int.emod_nonneg _ (by decide)) (by first | with_reducible exact (pt_rng _ _ _ _).2 | exact Int.emod_lt_of_pos _ (by decide))).mono ?_; rintro e w' ⟨rfl, rfl⟩))
  go_ret
  exact ⟨rfl, rfl⟩
theorem number_85 (x : Int) (w : World) (hx : 0 ≤ x) (hx' : x < 4294967296) : Calls Try.prog 32 #[.int .u32 x, .int .u8 85] w fun e w' => e = .returned (.int .u32 (numR 85 x)) ∧ w' = w := by
  go_enter Try.func32, Try.ntmps32
  go_wp2_with (go_at_call 33; refine (part_c _ _ _ _ _ hx hx' (by decide) (by decide)).mono ?_; rintro e w' ⟨rfl, rfl⟩)
  go_ret
  exact ⟨rfl, rfl⟩
theorem number_74 (x : Int) (w : World) (hx : 0 ≤ x) (hx' : x < 4294967296) : Calls Try.prog 32 #[.int .u32 x, .int .u8 74] w fun e w' => e = .returned (.int .u32 (numR 74 x)) ∧ w' = w := by
  have e4 : numR 74 x = ((pt x 20 1 31 + pt x 12 8 12 + pt x 11 1 20) % 4294967296 + pt x 1 10 21) % 4294967296 := by show add (add (add _ _) _) _ = _; rw [add4']
  rw [e4]
  go_enter Try.func32, Try.ntmps32
  go_wp2_with (go_at_call 33; refine (part_c _ _ _ _ _ hx hx' (by decide) (by decide)).mono ?_; rintro e w' ⟨rfl, rfl⟩)
  go_ret
  exact ⟨rfl, rfl⟩
theorem number_73 (x : Int) (w : World) (hx : 0 ≤ x) (hx' : x < 4294967296) : Calls Try.prog 32 #[.int .u32 x, .int .u8 73] w fun e w' => e = .returned (.int .u32 (numR 73 x)) ∧ w' = w := by
  go_enter Try.func32, Try.ntmps32
  go_wp2_with (go_at_call 33; refine (part_c _ _ _ _ _ hx hx' (by decide) (by decide)).mono ?_; rintro e w' ⟨rfl, rfl⟩)
  go_ret
  exact ⟨rfl, rfl⟩
theorem number_66 (x : Int) (w : World) (hx : 0 ≤ x) (hx' : x < 4294967296) : Calls Try.prog 32 #[.int .u32 x, .int .u8 66] w fun e w' => e = .returned (.int .u32 (numR 66 x)) ∧ w' = w := by
  have e4 : numR 66 x = ((pt x 12 1 31 + pt x 11 1 7 + pt x 5 6 25) % 4294967296 + pt x 1 4 8) % 4294967296 := by show add (add (add _ _) _) _ = _; rw [add4']
  rw [e4]
  go_enter Try.func32, Try.ntmps32
  go_wp2_with (go_at_call 33; refine (part_c _ _ _ _ _ hx hx' (by decide) (by decide)).mono ?_; rintro e w' ⟨rfl, rfl⟩)
  go_ret
  exact ⟨rfl, rfl⟩
theorem number_83 (x : Int) (w : World) (hx : 0 ≤ x) (hx' : x < 4294967296) : Calls Try.prog 32 #[.int .u32 x, .int .u8 83] w fun e w' => e = .returned (.int .u32 (numR 83 x)) ∧ w' = w := by
  go_enter Try.func32, Try.ntmps32
  go_wp2_with (go_at_call 33; refine (part_c _ _ _ _ _ hx hx' (by decide) (by decide)).mono ?_; rintro e w' ⟨rfl, rfl⟩)
  go_ret
  exact ⟨rfl, rfl⟩
theorem number_82 (x : Int) (w : World) (hx : 0 ≤ x) (hx' : x < 4294967296) : Calls Try.prog 32 #[.int .u32 x, .int .u8 82] w fun e w' => e = .returned (.int .u32 (numR 82 x)) ∧ w' = w := by
  go_enter Try.func32, Try.ntmps32
  go_wp2_with (go_at_call 33; refine (part_c _ _ _ _ _ hx hx' (by decide) (by decide)).mono ?_; rintro e w' ⟨rfl, rfl⟩)
  go_ret
  exact ⟨rfl, rfl⟩
theorem number_72 (x : Int) (w : World) (hx : 0 ≤ x) (hx' : x < 4294967296) : Calls Try.prog 32 #[.int .u32 x, .int .u8 72] w fun e w' => e = .returned (.int .u32 (numR 72 x)) ∧ w' = w := by
  go_enter Try.func32, Try.ntmps32
  go_wp2_with (go_at_call 33; refine (part_c _ _ _ _ _ hx hx' (by decide) (by decide)).mono ?_; rintro e w' ⟨rfl, rfl⟩)
  go_ret
  exact ⟨rfl, rfl⟩
theorem number_65 (x : Int) (w : World) (hx : 0 ≤ x) (hx' : x < 4294967296) : Calls Try.prog 32 #[.int .u32 x, .int .u8 65] w fun e w' => e = .returned (.int .u32 (numR 65 x)) ∧ w' = w := by
  go_enter Try.func32, Try.ntmps32
  go_wp2_with (go_at_call 33; refine (part_c _ _ _ _ _ hx hx' (by decide) (by decide)).mono ?_; rintro e w' ⟨rfl, rfl⟩)
  go_ret
  exact ⟨rfl, rfl⟩
theorem number_76 (x : Int) (w : World) (hx : 0 ≤ x) (hx' : x < 4294967296) : Calls Try.prog 32 #[.int .u32 x, .int .u8 76] w fun e w' => e = .returned (.int .u32 (numR 76 x)) ∧ w' = w := by
  go_enter Try.func32, Try.ntmps32
  go_wp2_with (go_at_call 33; refine (part_c _ _ _ _ _ hx hx' (by decide) (by decide)).mono ?_; rintro e w' ⟨rfl, rfl⟩)
  go_ret
  exact ⟨rfl, rfl⟩
theorem number_70 (x : Int) (w : World) (hx : 0 ≤ x) (hx' : x < 4294967296) : Calls Try.prog 32 #[.int .u32 x, .int .u8 70] w fun e w' => e = .returned (.int .u32 (numR 70 x)) ∧ w' = w := by
  go_enter Try.func32, Try.ntmps32
  go_wp2_with (go_at_call 33; refine (part_c _ _ _ _ _ hx hx' (by decide) (by decide)).mono ?_; rintro e w' ⟨rfl, rfl⟩)
  go_ret
  exact ⟨rfl, rfl⟩
theorem number_69 (x : Int) (w : World) (hx : 0 ≤ x) (hx' : x < 4294967296) : Calls Try.prog 32 #[.int .u32 x, .int .u8 69] w fun e w' => e = .returned (.int .u32 (numR 69 x)) ∧ w' = w := by
  go_enter Try.func32, Try.ntmps32
  go_wp2_with (go_at_call 33; refine (part_c _ _ _ _ _ hx hx' (by decide) (by decide)).mono ?_; rintro e w' ⟨rfl, rfl⟩)
  go_ret
  exact ⟨rfl, rfl⟩
theorem number_86 (x : Int) (w : World) (hx : 0 ≤ x) (hx' : x < 4294967296) : Calls Try.prog 32 #[.int .u32 x, .int .u8 86] w fun e w' => e = .returned (.int .u32 (numR 86 x)) ∧ w' = w := by
  go_enter Try.func32, Try.ntmps32
  go_wp2_with (go_at_call 33; refine (part_c _ _ _ _ _ hx hx' (by decide) (by decide)).mono ?_; rintro e w' ⟨rfl, rfl⟩)
  go_ret
  exact ⟨rfl, rfl⟩
theorem number_67 (x : Int) (w : World) (hx : 0 ≤ x) (hx' : x < 4294967296) : Calls Try.prog 32 #[.int .u32 x, .int .u8 67] w fun e w' => e = .returned (.int .u32 (numR 67 x)) ∧ w' = w := by
  go_enter Try.func32, Try.ntmps32
  go_wp2_with (go_at_call 33; refine (part_c _ _ _ _ _ hx hx' (by decide) (by decide)).mono ?_; rintro e w' ⟨rfl, rfl⟩)
  go_ret
  exact ⟨rfl, rfl⟩
theorem mask_c (c : Nat) (hc : c ∈ letters)  (w : World)  : Calls Try.prog 24 #[.int .u8 c] w fun e w' => e = .returned (.int .u32 ((frm c).mask)) ∧ w' = w := by
  simp only [letters, List.mem_cons, List.not_mem_nil, or_false] at hc
  rcases hc with rfl | rfl | rfl | rfl | rfl | rfl | rfl | rfl | rfl | rfl | rfl | rfl | rfl
  · exact mask_85 w
  · exact mask_74 w
  · exact mask_73 w
  · exact mask_66 w
  · exact mask_83 w
  · exact mask_82 w
  · exact mask_72 w
  · exact mask_65 w
  · exact mask_76 w
  · exact mask_70 w
  · exact mask_69 w
  · exact mask_86 w
  · exact mask_67 w
theorem imm_c (c : Nat) (hc : c ∈ letters) (x : Int) (w : World) (hx : 0 ≤ x) (hx' : x < 4294967296) : Calls Try.prog 25 #[.int .u32 x, .int .u8 c] w fun e w' => e = .returned (.int .u32 (immR c x)) ∧ w' = w := by
  simp only [letters, List.mem_cons, List.not_mem_nil, or_false] at hc
  rcases hc with rfl | rfl | rfl | rfl | rfl | rfl | rfl | rfl | rfl | rfl | rfl | rfl | rfl
  · exact imm_85 x w hx hx'
  · exact imm_74 x w hx hx'
  · exact imm_73 x w hx hx'
  · exact imm_66 x w hx hx'
  · exact imm_83 x w hx hx'
  · exact imm_82 x w hx hx'
  · exact imm_72 x w hx hx'
  · exact imm_65 x w hx hx'
  · exact imm_76 x w hx hx'
  · exact imm_70 x w hx hx'
  · exact imm_69 x w hx hx'
  · exact imm_86 x w hx hx'
  · exact imm_67 x w hx hx'
theorem number_c (c : Nat) (hc : c ∈ letters) (x : Int) (w : World) (hx : 0 ≤ x) (hx' : x < 4294967296) : Calls Try.prog 32 #[.int .u32 x, .int .u8 c] w fun e w' => e = .returned (.int .u32 (numR c x)) ∧ w' = w := by
  simp only [letters, List.mem_cons, List.not_mem_nil, or_false] at hc
  rcases hc with rfl | rfl | rfl | rfl | rfl | rfl | rfl | rfl | rfl | rfl | rfl | rfl | rfl
  · exact number_85 x w hx hx'
  · exact number_74 x w hx hx'
  · exact number_73 x w hx hx'
  · exact number_66 x w hx hx'
  · exact number_83 x w hx hx'
  · exact number_82 x w hx hx'
  · exact number_72 x w hx hx'
  · exact number_65 x w hx hx'
  · exact number_76 x w hx hx'
  · exact number_70 x w hx hx'
  · exact number_69 x w hx hx'
  · exact number_86 x w hx hx'
  · exact number_67 x w hx hx'
def anyFrom (s : ByteArray) (j : Nat) (c : Int) : Bool := (s.data.toList.drop j).any fun b => (b.toNat : Int) == c
theorem any_step (s : ByteArray) (j : Nat) (c : Int) (h : j < s.size) : anyFrom s j c = (((s[j].toNat : Int) == c) || anyFrom s (j + 1) c) := by
  have hl : j < s.data.toList.length := by rw [← Lib.size_eq]; exact h
  unfold anyFrom
  rw [List.drop_eq_getElem_cons hl]
  rfl
theorem any_end (s : ByteArray) (c : Int) : anyFrom s s.size c = false := by
  unfold anyFrom
  rw [List.drop_eq_nil_of_le (by rw [← Lib.size_eq]; exact Nat.le_refl _)]
  rfl
set_option maxHeartbeats 1000000 in
theorem has_r (s : ByteArray) (c : Int) (w : World) (hs : s.size ≤ 100) (q : Bool) (hq : Hid (anyFrom s 0 c = q)) : Calls Try.prog 26 #[.string s, .int .u8 c] w fun e w' => e = .returned (.bool q) ∧ w' = w := by
  have hs2 : (s.size : Int) ≤ 100 := by omega
  go_enter Try.func26, Try.ntmps26
  go_wp2
  go_loopw [5] (fun iv wr => ∃ j : Nat, j ≤ s.size ∧ iv = .int .i64 j ∧ wr = w ∧ Hid (anyFrom s j c = q)) (fun i _ => s.size - (intOf i).toNat)
  case atStart => exact ⟨0, Nat.zero_le _, rfl, rfl, hq⟩
  case round =>
    obtain ⟨j, hj, rfl, rfl, hE⟩ := hrel
    by_cases hlt : j < s.size
    · have hlt2 : (j : Int) < (s.size : Int) := by omega
      have hE2 := hE.out
      rw [any_step s j c hlt] at hE2
      by_cases hb : ((s[j].toNat : Int) == c) = true
      · rw [hb, Bool.true_or] at hE2
        subst hE2
        go_wp2
        go_ret
        exact ⟨rfl, rfl⟩
      · have hb2 := Bool.eq_false_iff.2 hb
        rw [hb2, Bool.false_or] at hE2
        have hE3 := Lib.hid hE2
        clear hE hE2 hb
        go_wp2
        go_roundw
        case rel => exact ⟨j + 1, by omega, by go_num, by trivial, hE3⟩
        case measure => simp [intOf]; omega
    · obtain rfl : j = s.size := by omega
      have hE2 : false = q := by rw [← hE.out]; exact (any_end s c).symm
      subst hE2
      have hlt2 : ¬ (s.size : Int) < (s.size : Int) := by omega
      go_wp2
      go_ret
      exact ⟨rfl, rfl⟩
end Rf
end Go.Proofs.Ytpdemjdjgehpgaa

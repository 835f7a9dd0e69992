/- The walks of the laws of package alu: each returns true for every input and writes nothing that was there. -/
import Derived.Test.YtjecffjiaappoaaAny12

namespace Go.Proofs.Ytjecffjiaappoaa
open Go.RowKit
set_option linter.unusedVariables false
namespace Laws12

theorem do1_28 (a b : Int) (w : World) (ha : 0 ≤ a) (ha' : a < 4294967296) (hb : 0 ≤ b) (hb' : b < 4294967296) : Calls Try.prog 22 #[.int .i64 28, .int .u32 a, .int .u32 b] w fun e w' => e = .returned (.int .u32 (Al.add a b)) ∧ w = w' := by
  go_enter Try.func22, Try.ntmps22
  go_wp2_with (go_at_call 12; refine (Alu.do_28 a b _ ha ha' hb hb').mono ?_; rintro e w' ⟨rfl, rfl⟩)
  go_ret
  exact ⟨rfl, rfl⟩

theorem do1_29 (a b : Int) (w : World) (ha : 0 ≤ a) (ha' : a < 4294967296) (hb : 0 ≤ b) (hb' : b < 4294967296) : Calls Try.prog 22 #[.int .i64 29, .int .u32 a, .int .u32 b] w fun e w' => e = .returned (.int .u32 (Al.sub a b)) ∧ w = w' := by
  go_enter Try.func22, Try.ntmps22
  go_wp2_with (go_at_call 12; refine (Alu.do_29 a b _ ha ha' hb hb').mono ?_; rintro e w' ⟨rfl, rfl⟩)
  go_ret
  exact ⟨rfl, rfl⟩

theorem do1_30 (a b : Int) (w : World) (ha : 0 ≤ a) (ha' : a < 4294967296) (hb : 0 ≤ b) (hb' : b < 4294967296) : Calls Try.prog 22 #[.int .i64 30, .int .u32 a, .int .u32 b] w fun e w' => e = .returned (.int .u32 (Al.sll a b)) ∧ w = w' := by
  go_enter Try.func22, Try.ntmps22
  go_wp2_with (go_at_call 12; refine (Alu.do_30 a b _ ha ha' hb hb').mono ?_; rintro e w' ⟨rfl, rfl⟩)
  go_ret
  exact ⟨rfl, rfl⟩

theorem do1_31 (a b : Int) (w : World) (ha : 0 ≤ a) (ha' : a < 4294967296) (hb : 0 ≤ b) (hb' : b < 4294967296) : Calls Try.prog 22 #[.int .i64 31, .int .u32 a, .int .u32 b] w fun e w' => e = .returned (.int .u32 (Al.slt a b)) ∧ w = w' := by
  go_enter Try.func22, Try.ntmps22
  go_wp2_with (go_at_call 12; refine (Alu.do_31 a b _ ha ha' hb hb').mono ?_; rintro e w' ⟨rfl, rfl⟩)
  go_ret
  exact ⟨rfl, rfl⟩

theorem do1_32 (a b : Int) (w : World) (ha : 0 ≤ a) (ha' : a < 4294967296) (hb : 0 ≤ b) (hb' : b < 4294967296) : Calls Try.prog 22 #[.int .i64 32, .int .u32 a, .int .u32 b] w fun e w' => e = .returned (.int .u32 (Al.sltu a b)) ∧ w = w' := by
  go_enter Try.func22, Try.ntmps22
  go_wp2_with (go_at_call 12; refine (Alu.do_32 a b _ ha ha' hb hb').mono ?_; rintro e w' ⟨rfl, rfl⟩)
  go_ret
  exact ⟨rfl, rfl⟩

theorem do1_33 (a b : Int) (w : World) (ha : 0 ≤ a) (ha' : a < 4294967296) (hb : 0 ≤ b) (hb' : b < 4294967296) : Calls Try.prog 22 #[.int .i64 33, .int .u32 a, .int .u32 b] w fun e w' => e = .returned (.int .u32 (Al.xor a b)) ∧ w = w' := by
  go_enter Try.func22, Try.ntmps22
  go_wp2_with (go_at_call 12; refine (Alu.do_33 a b _ ha ha' hb hb').mono ?_; rintro e w' ⟨rfl, rfl⟩)
  go_ret
  exact ⟨rfl, rfl⟩

theorem do1_34 (a b : Int) (w : World) (ha : 0 ≤ a) (ha' : a < 4294967296) (hb : 0 ≤ b) (hb' : b < 4294967296) : Calls Try.prog 22 #[.int .i64 34, .int .u32 a, .int .u32 b] w fun e w' => e = .returned (.int .u32 (Al.srl a b)) ∧ w = w' := by
  go_enter Try.func22, Try.ntmps22
  go_wp2_with (go_at_call 12; refine (Alu.do_34 a b _ ha ha' hb hb').mono ?_; rintro e w' ⟨rfl, rfl⟩)
  go_ret
  exact ⟨rfl, rfl⟩

theorem do1_35 (a b : Int) (w : World) (ha : 0 ≤ a) (ha' : a < 4294967296) (hb : 0 ≤ b) (hb' : b < 4294967296) : Calls Try.prog 22 #[.int .i64 35, .int .u32 a, .int .u32 b] w fun e w' => e = .returned (.int .u32 (Al.sra a b)) ∧ w = w' := by
  go_enter Try.func22, Try.ntmps22
  go_wp2_with (go_at_call 12; refine (Alu.do_35 a b _ ha ha' hb hb').mono ?_; rintro e w' ⟨rfl, rfl⟩)
  go_ret
  exact ⟨rfl, rfl⟩

theorem do1_36 (a b : Int) (w : World) (ha : 0 ≤ a) (ha' : a < 4294967296) (hb : 0 ≤ b) (hb' : b < 4294967296) : Calls Try.prog 22 #[.int .i64 36, .int .u32 a, .int .u32 b] w fun e w' => e = .returned (.int .u32 (Al.or a b)) ∧ w = w' := by
  go_enter Try.func22, Try.ntmps22
  go_wp2_with (go_at_call 12; refine (Alu.do_36 a b _ ha ha' hb hb').mono ?_; rintro e w' ⟨rfl, rfl⟩)
  go_ret
  exact ⟨rfl, rfl⟩

theorem do1_37 (a b : Int) (w : World) (ha : 0 ≤ a) (ha' : a < 4294967296) (hb : 0 ≤ b) (hb' : b < 4294967296) : Calls Try.prog 22 #[.int .i64 37, .int .u32 a, .int .u32 b] w fun e w' => e = .returned (.int .u32 (Al.and a b)) ∧ w = w' := by
  go_enter Try.func22, Try.ntmps22
  go_wp2_with (go_at_call 12; refine (Alu.do_37 a b _ ha ha' hb hb').mono ?_; rintro e w' ⟨rfl, rfl⟩)
  go_ret
  exact ⟨rfl, rfl⟩

theorem do1_38 (a b : Int) (w : World) (ha : 0 ≤ a) (ha' : a < 4294967296) (hb : 0 ≤ b) (hb' : b < 4294967296) : Calls Try.prog 22 #[.int .i64 38, .int .u32 a, .int .u32 b] w fun e w' => e = .returned (.int .u32 (Al.mul a b)) ∧ w = w' := by
  go_enter Try.func22, Try.ntmps22
  go_wp2_with (go_at_call 12; refine (Alu.do_38 a b _ ha ha' hb hb').mono ?_; rintro e w' ⟨rfl, rfl⟩)
  go_ret
  exact ⟨rfl, rfl⟩

theorem do1_39 (a b : Int) (w : World) (ha : 0 ≤ a) (ha' : a < 4294967296) (hb : 0 ≤ b) (hb' : b < 4294967296) : Calls Try.prog 22 #[.int .i64 39, .int .u32 a, .int .u32 b] w fun e w' => e = .returned (.int .u32 (Al.mulh a b)) ∧ w = w' := by
  go_enter Try.func22, Try.ntmps22
  go_wp2_with (go_at_call 12; refine (Alu.do_39 a b _ ha ha' hb hb').mono ?_; rintro e w' ⟨rfl, rfl⟩)
  go_ret
  exact ⟨rfl, rfl⟩

theorem do1_40 (a b : Int) (w : World) (ha : 0 ≤ a) (ha' : a < 4294967296) (hb : 0 ≤ b) (hb' : b < 4294967296) : Calls Try.prog 22 #[.int .i64 40, .int .u32 a, .int .u32 b] w fun e w' => e = .returned (.int .u32 (Al.mulhsu a b)) ∧ w = w' := by
  go_enter Try.func22, Try.ntmps22
  go_wp2_with (go_at_call 12; refine (Alu.do_40 a b _ ha ha' hb hb').mono ?_; rintro e w' ⟨rfl, rfl⟩)
  go_ret
  exact ⟨rfl, rfl⟩

theorem do1_41 (a b : Int) (w : World) (ha : 0 ≤ a) (ha' : a < 4294967296) (hb : 0 ≤ b) (hb' : b < 4294967296) : Calls Try.prog 22 #[.int .i64 41, .int .u32 a, .int .u32 b] w fun e w' => e = .returned (.int .u32 (Al.mulhu a b)) ∧ w = w' := by
  go_enter Try.func22, Try.ntmps22
  go_wp2_with (go_at_call 12; refine (Alu.do_41 a b _ ha ha' hb hb').mono ?_; rintro e w' ⟨rfl, rfl⟩)
  go_ret
  exact ⟨rfl, rfl⟩

theorem do1_42 (a b : Int) (w : World) (ha : 0 ≤ a) (ha' : a < 4294967296) (hb : 0 ≤ b) (hb' : b < 4294967296) : Calls Try.prog 22 #[.int .i64 42, .int .u32 a, .int .u32 b] w fun e w' => e = .returned (.int .u32 (Al.div a b)) ∧ Below w.heap.size w w' := by
  go_enter Try.func22, Try.ntmps22
  go_wp2_with (go_at_call 12; refine (Alu.do_42 a b _ ha ha' hb hb').mono ?_; rintro e w' ⟨rfl, hb1⟩)
  go_ret
  exact ⟨rfl, hb1⟩

theorem do1_43 (a b : Int) (w : World) (ha : 0 ≤ a) (ha' : a < 4294967296) (hb : 0 ≤ b) (hb' : b < 4294967296) : Calls Try.prog 22 #[.int .i64 43, .int .u32 a, .int .u32 b] w fun e w' => e = .returned (.int .u32 (Al.divu a b)) ∧ Below w.heap.size w w' := by
  go_enter Try.func22, Try.ntmps22
  go_wp2_with (go_at_call 12; refine (Alu.do_43 a b _ ha ha' hb hb').mono ?_; rintro e w' ⟨rfl, hb1⟩)
  go_ret
  exact ⟨rfl, hb1⟩

theorem do1_44 (a b : Int) (w : World) (ha : 0 ≤ a) (ha' : a < 4294967296) (hb : 0 ≤ b) (hb' : b < 4294967296) : Calls Try.prog 22 #[.int .i64 44, .int .u32 a, .int .u32 b] w fun e w' => e = .returned (.int .u32 (Al.rem a b)) ∧ Below w.heap.size w w' := by
  go_enter Try.func22, Try.ntmps22
  go_wp2_with (go_at_call 12; refine (Alu.do_44 a b _ ha ha' hb hb').mono ?_; rintro e w' ⟨rfl, hb1⟩)
  go_ret
  exact ⟨rfl, hb1⟩

theorem do1_45 (a b : Int) (w : World) (ha : 0 ≤ a) (ha' : a < 4294967296) (hb : 0 ≤ b) (hb' : b < 4294967296) : Calls Try.prog 22 #[.int .i64 45, .int .u32 a, .int .u32 b] w fun e w' => e = .returned (.int .u32 (Al.remu a b)) ∧ Below w.heap.size w w' := by
  go_enter Try.func22, Try.ntmps22
  go_wp2_with (go_at_call 12; refine (Alu.do_45 a b _ ha ha' hb hb').mono ?_; rintro e w' ⟨rfl, hb1⟩)
  go_ret
  exact ⟨rfl, hb1⟩

theorem alive_c (w : World) : Calls Try.prog 11 #[] w fun e w' => e = .returned (.bool true) ∧ Below w.heap.size w w' := by
  have E1 := Lib.hid (show Al.div 4294967289 2 = 4294967293 by decide +kernel)
  have E2 := Lib.hid (show Al.rem 4294967289 2 = 4294967295 by decide +kernel)
  have E3 := Lib.hid (show Bt.sign (511 % 256) 8 = 4294967295 by decide +kernel)
  have E4 := Lib.hid (show Al.smax 4294967295 5 = 5 by decide +kernel)
  have hlt : wrap32 4294967295 < wrap32 0 := by decide +kernel
  go_enter Try.func11, Try.ntmps11
  go_wp2_with (go_at_call 25; refine (minus_c _ _).mono ?_; rintro e w' ⟨rfl, rfl⟩)
  refine (Alu.do_42 _ _ _ (by decide) (by decide) (by decide) (by decide)).mono ?_
  rintro e w1 ⟨rfl, hb1⟩
  rw [E1.out]
  go_wp2_with (go_at_call 25; refine (minus_c _ _).mono ?_; rintro e w' ⟨rfl, rfl⟩)
  refine (Alu.do_44 _ _ _ (by decide) (by decide) (by decide) (by decide)).mono ?_
  rintro e w2 ⟨rfl, hb2⟩
  rw [E2.out]
  go_wp2_with (go_at_call 25; refine (minus_c _ _).mono ?_; rintro e w' ⟨rfl, rfl⟩)
  refine (Alu.branch_7 _ _ _ (by decide) (by decide) (by decide) (by decide)).mono ?_
  rintro e w' ⟨rfl, rfl⟩
  go_wp2_with (go_at_call 25; refine (minus_c _ _).mono ?_; rintro e w' ⟨rfl, rfl⟩)
  refine (Alu.amo_54 _ _ _ (by decide) (by decide) (by decide) (by decide)).mono ?_
  rintro e w' ⟨rfl, rfl⟩
  rw [E4.out]
  go_wp2_with fail
  refine (Alu.load_11 _ _ (by decide) (by decide)).mono ?_
  rintro e w' ⟨rfl, rfl⟩
  rw [E3.out]
  go_wp2_with fail
  refine (Alu.do_low 1 _ _ _ (by decide)).mono ?_
  rintro e w3 ⟨rfl, hb3⟩
  go_wp2_with (first | (go_at_call 25; refine (minus_c _ _).mono ?_; rintro e w' ⟨rfl, rfl⟩) | (go_at_call 20; refine (size_Alu_17 _).mono ?_; rintro e w4 ⟨rfl, hb4⟩))
  go_ret
  exact ⟨rfl, below_next (below_next (below_next hb1 hb2) hb3) hb4⟩

theorem AluDoes_c (a0 a1 a2 : Int) (w : World) (w0 : (Lit.int .i64 a0).wf = true) (w1 : (Lit.int .u32 a1).wf = true) (w2 : (Lit.int .u32 a2).wf = true) :
    Calls Try.prog 3 #[.int .i64 a0, .int .u32 a1, .int .u32 a2] w fun e w' => e = .returned (.bool true) ∧ Below w.heap.size w w' := by
  have HN := Lib.hid (wf_i64 w0)
  obtain ⟨x1, y1⟩ := wf_u32 w1
  obtain ⟨x2, y2⟩ := wf_u32 w2
  obtain ⟨v, t, h1⟩ := do_any a0 a1 a2 x1 y1 x2 y2
  obtain ⟨u, s, h2⟩ := branch_any a0 a1 a2 HN x1 y1 x2 y2
  have H1 := Lib.hid h1
  have H2 := Lib.hid h2
  clear w0 w1 w2 h1 h2
  go_enter Try.func3, Try.ntmps3
  go_wp2_with fail
  refine (alive_c _).mono ?_
  rintro e w1 ⟨rfl, hb1⟩
  go_wp2_with fail
  refine (H1.out _).1.mono ?_
  rintro e w2 ⟨rfl, hb2⟩
  go_wp2_with fail
  refine (H1.out _).2.mono ?_
  rintro e w3 ⟨rfl, hb3⟩
  go_wp2_with fail
  refine (H2.out _).1.mono ?_
  rintro e w4 ⟨rfl, hb4⟩
  go_wp2_with fail
  refine (H2.out _).2.mono ?_
  rintro e w5 ⟨rfl, hb5⟩
  go_wp2_with fail
  go_ret
  exact ⟨rfl, below_next (below_next (below_next (below_next hb1 hb2) hb3) hb4) hb5⟩

theorem AluMoves_c (a0 a1 a2 : Int) (w : World) (w0 : (Lit.int .i64 a0).wf = true) (w1 : (Lit.int .u32 a1).wf = true) (w2 : (Lit.int .u32 a2).wf = true) :
    Calls Try.prog 4 #[.int .i64 a0, .int .u32 a1, .int .u32 a2] w fun e w' => e = .returned (.bool true) ∧ Below w.heap.size w w' := by
  have HN := Lib.hid (wf_i64 w0)
  obtain ⟨x1, y1⟩ := wf_u32 w1
  obtain ⟨x2, y2⟩ := wf_u32 w2
  obtain ⟨v, t, h1⟩ := amo_any a0 a1 a2 HN x1 y1 x2 y2
  obtain ⟨u, s, h2⟩ := load_any a0 a1 HN x1 y1
  obtain ⟨z, h3⟩ := size_any a0
  have H1 := Lib.hid h1
  have H2 := Lib.hid h2
  have H3 := Lib.hid h3
  clear w0 w1 w2 h1 h2 h3
  go_enter Try.func4, Try.ntmps4
  go_wp2_with fail
  refine (alive_c _).mono ?_
  rintro e w1 ⟨rfl, hb1⟩
  go_wp2_with fail
  refine (H1.out _).1.mono ?_
  rintro e w2 ⟨rfl, hb2⟩
  go_wp2_with fail
  refine (H1.out _).2.mono ?_
  rintro e w3 ⟨rfl, hb3⟩
  go_wp2_with fail
  refine (H2.out _).1.mono ?_
  rintro e w4 ⟨rfl, hb4⟩
  go_wp2_with fail
  refine (H2.out _).2.mono ?_
  rintro e w5 ⟨rfl, hb5⟩
  go_wp2_with fail
  refine (H3.out _).1.mono ?_
  rintro e w6 ⟨rfl, hb6⟩
  go_wp2_with fail
  refine (H3.out _).2.mono ?_
  rintro e w7 ⟨rfl, hb7⟩
  go_wp2_with fail
  go_ret
  exact ⟨rfl, below_next (below_next (below_next (below_next (below_next (below_next hb1 hb2) hb3) hb4) hb5) hb6) hb7⟩

end Laws12
end Go.Proofs.Ytjecffjiaappoaa

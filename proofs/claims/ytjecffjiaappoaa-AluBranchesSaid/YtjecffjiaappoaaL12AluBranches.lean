/- The walk of the law AluBranches of package alu: it returns true for every input and writes nothing that was there. -/
import Derived.Test.YtjecffjiaappoaaLaws12
import Derived.Test.YtjecffjiaappoaaAlLaws
namespace Go.Proofs.Ytjecffjiaappoaa
open Go.RowKit
set_option linter.unusedVariables false
namespace Laws12

theorem goes_5 (a b : Int) (w : World) (ha : 0 ≤ a) (ha' : a < 4294967296) (hb : 0 ≤ b) (hb' : b < 4294967296) (t : Bool) (ht : (a == b) = t) : Calls Try.prog 23 #[.int .i64 5, .int .u32 a, .int .u32 b] w fun e w' => e = .returned (.bool t) ∧ w = w' := by
  have c := Alu.branch_5 a b w ha ha' hb hb'
  rw [ht] at c
  have C := Lib.hid c
  clear c ht
  cases t
  · go_enter Try.func23, Try.ntmps23
    go_wp2_with (go_at_call 14; refine C.out.mono ?_; rintro e w' ⟨rfl, rfl⟩)
    go_ret
    exact ⟨rfl, rfl⟩
  · go_enter Try.func23, Try.ntmps23
    go_wp2_with (go_at_call 14; refine C.out.mono ?_; rintro e w' ⟨rfl, rfl⟩)
    go_ret
    exact ⟨rfl, rfl⟩

theorem goes_6 (a b : Int) (w : World) (ha : 0 ≤ a) (ha' : a < 4294967296) (hb : 0 ≤ b) (hb' : b < 4294967296) (t : Bool) (ht : (a != b) = t) : Calls Try.prog 23 #[.int .i64 6, .int .u32 a, .int .u32 b] w fun e w' => e = .returned (.bool t) ∧ w = w' := by
  have c := Alu.branch_6 a b w ha ha' hb hb'
  rw [ht] at c
  have C := Lib.hid c
  clear c ht
  cases t
  · go_enter Try.func23, Try.ntmps23
    go_wp2_with (go_at_call 14; refine C.out.mono ?_; rintro e w' ⟨rfl, rfl⟩)
    go_ret
    exact ⟨rfl, rfl⟩
  · go_enter Try.func23, Try.ntmps23
    go_wp2_with (go_at_call 14; refine C.out.mono ?_; rintro e w' ⟨rfl, rfl⟩)
    go_ret
    exact ⟨rfl, rfl⟩

theorem goes_7 (a b : Int) (w : World) (ha : 0 ≤ a) (ha' : a < 4294967296) (hb : 0 ≤ b) (hb' : b < 4294967296) (t : Bool) (ht : (decide (wrap32 a < wrap32 b)) = t) : Calls Try.prog 23 #[.int .i64 7, .int .u32 a, .int .u32 b] w fun e w' => e = .returned (.bool t) ∧ w = w' := by
  have c := Alu.branch_7 a b w ha ha' hb hb'
  rw [ht] at c
  have C := Lib.hid c
  clear c ht
  cases t
  · go_enter Try.func23, Try.ntmps23
    go_wp2_with (go_at_call 14; refine C.out.mono ?_; rintro e w' ⟨rfl, rfl⟩)
    go_ret
    exact ⟨rfl, rfl⟩
  · go_enter Try.func23, Try.ntmps23
    go_wp2_with (go_at_call 14; refine C.out.mono ?_; rintro e w' ⟨rfl, rfl⟩)
    go_ret
    exact ⟨rfl, rfl⟩

theorem goes_8 (a b : Int) (w : World) (ha : 0 ≤ a) (ha' : a < 4294967296) (hb : 0 ≤ b) (hb' : b < 4294967296) (t : Bool) (ht : (decide (wrap32 b ≤ wrap32 a)) = t) : Calls Try.prog 23 #[.int .i64 8, .int .u32 a, .int .u32 b] w fun e w' => e = .returned (.bool t) ∧ w = w' := by
  have c := Alu.branch_8 a b w ha ha' hb hb'
  rw [ht] at c
  have C := Lib.hid c
  clear c ht
  cases t
  · go_enter Try.func23, Try.ntmps23
    go_wp2_with (go_at_call 14; refine C.out.mono ?_; rintro e w' ⟨rfl, rfl⟩)
    go_ret
    exact ⟨rfl, rfl⟩
  · go_enter Try.func23, Try.ntmps23
    go_wp2_with (go_at_call 14; refine C.out.mono ?_; rintro e w' ⟨rfl, rfl⟩)
    go_ret
    exact ⟨rfl, rfl⟩

theorem goes_9 (a b : Int) (w : World) (ha : 0 ≤ a) (ha' : a < 4294967296) (hb : 0 ≤ b) (hb' : b < 4294967296) (t : Bool) (ht : (decide (a < b)) = t) : Calls Try.prog 23 #[.int .i64 9, .int .u32 a, .int .u32 b] w fun e w' => e = .returned (.bool t) ∧ w = w' := by
  have c := Alu.branch_9 a b w ha ha' hb hb'
  rw [ht] at c
  have C := Lib.hid c
  clear c ht
  cases t
  · go_enter Try.func23, Try.ntmps23
    go_wp2_with (go_at_call 14; refine C.out.mono ?_; rintro e w' ⟨rfl, rfl⟩)
    go_ret
    exact ⟨rfl, rfl⟩
  · go_enter Try.func23, Try.ntmps23
    go_wp2_with (go_at_call 14; refine C.out.mono ?_; rintro e w' ⟨rfl, rfl⟩)
    go_ret
    exact ⟨rfl, rfl⟩

theorem goes_10 (a b : Int) (w : World) (ha : 0 ≤ a) (ha' : a < 4294967296) (hb : 0 ≤ b) (hb' : b < 4294967296) (t : Bool) (ht : (decide (b ≤ a)) = t) : Calls Try.prog 23 #[.int .i64 10, .int .u32 a, .int .u32 b] w fun e w' => e = .returned (.bool t) ∧ w = w' := by
  have c := Alu.branch_10 a b w ha ha' hb hb'
  rw [ht] at c
  have C := Lib.hid c
  clear c ht
  cases t
  · go_enter Try.func23, Try.ntmps23
    go_wp2_with (go_at_call 14; refine C.out.mono ?_; rintro e w' ⟨rfl, rfl⟩)
    go_ret
    exact ⟨rfl, rfl⟩
  · go_enter Try.func23, Try.ntmps23
    go_wp2_with (go_at_call 14; refine C.out.mono ?_; rintro e w' ⟨rfl, rfl⟩)
    go_ret
    exact ⟨rfl, rfl⟩

set_option maxHeartbeats 2000000 in
theorem AluBranches_c (a0 a1 : Int) (w : World) (w0 : (Lit.int .u32 a0).wf = true) (w1 : (Lit.int .u32 a1).wf = true) :
    Calls Try.prog 8 #[.int .u32 a0, .int .u32 a1] w fun e w' => e = .returned (.bool true) ∧ Below w.heap.size w w' := by
  obtain ⟨x0, y0⟩ := wf_u32 w0
  obtain ⟨x1, y1⟩ := wf_u32 w1
  clear w0 w1
  have hmf := @Alu.makeFunc_run Try.prog
  by_cases he : a0 = a1
  · subst he
    have d5 : (a0 == a0) = true := by simp
    have d6 : (a0 != a0) = false := by simp
    have d7 : decide (wrap32 a0 < wrap32 a0) = false := decide_eq_false (by omega)
    have d8 : decide (wrap32 a0 ≤ wrap32 a0) = true := decide_eq_true (by omega)
    have d9 : decide (a0 < a0) = false := decide_eq_false (by omega)
    have d10 : decide (a0 ≤ a0) = true := decide_eq_true (by omega)
    have dd : decide (wrap32 a0 < wrap32 a0) = false := decide_eq_false (by omega)
    have q1 : (a0 == a0) = true := d5
    have e1 : Al.slt a0 a0 = 0 := if_neg (by omega)
    have e2 : Al.sltu a0 a0 = 0 := if_neg (by omega)
    have D5 := Lib.hid d5
    have D6 := Lib.hid d6
    have D7 := Lib.hid d7
    have D8 := Lib.hid d8
    have D9 := Lib.hid d9
    have D10 := Lib.hid d10
    have DD := Lib.hid dd
    clear d5 d6 d7 d8 d9 d10 dd
    go_enter Try.func8, Try.ntmps8
    go_wp2_with fail
    refine (alive_c _).mono ?_
    rintro e w1 ⟨rfl, hb1⟩
    go_wp2_with fail
    refine (do1_31 a0 a0 _ x0 y0 x0 y0).mono ?_
    rintro e w' ⟨rfl, rfl⟩
    go_wp2_with fail
    refine (do1_32 a0 a0 _ x0 y0 x0 y0).mono ?_
    rintro e w' ⟨rfl, rfl⟩
    go_wp2_with (first | ((with_reducible refine (goes_5 a0 a0 _ x0 y0 x0 y0 true D5.out).mono ?_); rintro e w' ⟨rfl, rfl⟩) | ((with_reducible refine (goes_6 a0 a0 _ x0 y0 x0 y0 false D6.out).mono ?_); rintro e w' ⟨rfl, rfl⟩) | ((with_reducible refine (goes_7 a0 a0 _ x0 y0 x0 y0 false D7.out).mono ?_); rintro e w' ⟨rfl, rfl⟩) | ((with_reducible refine (goes_8 a0 a0 _ x0 y0 x0 y0 true D8.out).mono ?_); rintro e w' ⟨rfl, rfl⟩) | ((with_reducible refine (goes_9 a0 a0 _ x0 y0 x0 y0 false D9.out).mono ?_); rintro e w' ⟨rfl, rfl⟩) | ((with_reducible refine (goes_10 a0 a0 _ x0 y0 x0 y0 true D10.out).mono ?_); rintro e w' ⟨rfl, rfl⟩) | ((with_reducible refine (goes_7 a0 a0 _ x0 y0 x0 y0 false DD.out).mono ?_); rintro e w' ⟨rfl, rfl⟩))
    go_ret
    exact ⟨rfl, hb1⟩
  · rcases Al.three_s a0 a1 x0 y0 x1 y1 with ⟨h1, h2, -, -⟩ | ⟨h1, h2, -, -⟩ | ⟨h1, -, -⟩
    · by_cases k1 : a0 < a1
      · have d5 : (a0 == a1) = false := by simpa using he
        have d6 : (a0 != a1) = true := by simpa using he
        have d7 : decide (wrap32 a0 < wrap32 a1) = true := decide_eq_true (by omega)
        have d8 : decide (wrap32 a1 ≤ wrap32 a0) = false := decide_eq_false (by omega)
        have d9 : decide (a0 < a1) = true := decide_eq_true (by omega)
        have d10 : decide (a1 ≤ a0) = false := decide_eq_false (by omega)
        have dd : decide (wrap32 a1 < wrap32 a0) = false := decide_eq_false (by omega)
        have q1 : (a0 == a1) = false := d5
        have e1 : Al.slt a0 a1 = 1 := if_pos (by omega)
        have e2 : Al.sltu a0 a1 = 1 := if_pos (by omega)
        have D5 := Lib.hid d5
        have D6 := Lib.hid d6
        have D7 := Lib.hid d7
        have D8 := Lib.hid d8
        have D9 := Lib.hid d9
        have D10 := Lib.hid d10
        have DD := Lib.hid dd
        clear d5 d6 d7 d8 d9 d10 dd
        go_enter Try.func8, Try.ntmps8
        go_wp2_with fail
        refine (alive_c _).mono ?_
        rintro e w1 ⟨rfl, hb1⟩
        go_wp2_with fail
        refine (do1_31 a0 a1 _ x0 y0 x1 y1).mono ?_
        rintro e w' ⟨rfl, rfl⟩
        go_wp2_with fail
        refine (do1_32 a0 a1 _ x0 y0 x1 y1).mono ?_
        rintro e w' ⟨rfl, rfl⟩
        go_wp2_with (first | ((with_reducible refine (goes_5 a0 a1 _ x0 y0 x1 y1 false D5.out).mono ?_); rintro e w' ⟨rfl, rfl⟩) | ((with_reducible refine (goes_6 a0 a1 _ x0 y0 x1 y1 true D6.out).mono ?_); rintro e w' ⟨rfl, rfl⟩) | ((with_reducible refine (goes_7 a0 a1 _ x0 y0 x1 y1 true D7.out).mono ?_); rintro e w' ⟨rfl, rfl⟩) | ((with_reducible refine (goes_8 a0 a1 _ x0 y0 x1 y1 false D8.out).mono ?_); rintro e w' ⟨rfl, rfl⟩) | ((with_reducible refine (goes_9 a0 a1 _ x0 y0 x1 y1 true D9.out).mono ?_); rintro e w' ⟨rfl, rfl⟩) | ((with_reducible refine (goes_10 a0 a1 _ x0 y0 x1 y1 false D10.out).mono ?_); rintro e w' ⟨rfl, rfl⟩) | ((with_reducible refine (goes_7 a1 a0 _ x1 y1 x0 y0 false DD.out).mono ?_); rintro e w' ⟨rfl, rfl⟩))
        go_ret
        exact ⟨rfl, hb1⟩
      · have d5 : (a0 == a1) = false := by simpa using he
        have d6 : (a0 != a1) = true := by simpa using he
        have d7 : decide (wrap32 a0 < wrap32 a1) = true := decide_eq_true (by omega)
        have d8 : decide (wrap32 a1 ≤ wrap32 a0) = false := decide_eq_false (by omega)
        have d9 : decide (a0 < a1) = false := decide_eq_false (by omega)
        have d10 : decide (a1 ≤ a0) = true := decide_eq_true (by omega)
        have dd : decide (wrap32 a1 < wrap32 a0) = false := decide_eq_false (by omega)
        have q1 : (a0 == a1) = false := d5
        have e1 : Al.slt a0 a1 = 1 := if_pos (by omega)
        have e2 : Al.sltu a0 a1 = 0 := if_neg (by omega)
        have D5 := Lib.hid d5
        have D6 := Lib.hid d6
        have D7 := Lib.hid d7
        have D8 := Lib.hid d8
        have D9 := Lib.hid d9
        have D10 := Lib.hid d10
        have DD := Lib.hid dd
        clear d5 d6 d7 d8 d9 d10 dd
        go_enter Try.func8, Try.ntmps8
        go_wp2_with fail
        refine (alive_c _).mono ?_
        rintro e w1 ⟨rfl, hb1⟩
        go_wp2_with fail
        refine (do1_31 a0 a1 _ x0 y0 x1 y1).mono ?_
        rintro e w' ⟨rfl, rfl⟩
        go_wp2_with fail
        refine (do1_32 a0 a1 _ x0 y0 x1 y1).mono ?_
        rintro e w' ⟨rfl, rfl⟩
        go_wp2_with (first | ((with_reducible refine (goes_5 a0 a1 _ x0 y0 x1 y1 false D5.out).mono ?_); rintro e w' ⟨rfl, rfl⟩) | ((with_reducible refine (goes_6 a0 a1 _ x0 y0 x1 y1 true D6.out).mono ?_); rintro e w' ⟨rfl, rfl⟩) | ((with_reducible refine (goes_7 a0 a1 _ x0 y0 x1 y1 true D7.out).mono ?_); rintro e w' ⟨rfl, rfl⟩) | ((with_reducible refine (goes_8 a0 a1 _ x0 y0 x1 y1 false D8.out).mono ?_); rintro e w' ⟨rfl, rfl⟩) | ((with_reducible refine (goes_9 a0 a1 _ x0 y0 x1 y1 false D9.out).mono ?_); rintro e w' ⟨rfl, rfl⟩) | ((with_reducible refine (goes_10 a0 a1 _ x0 y0 x1 y1 true D10.out).mono ?_); rintro e w' ⟨rfl, rfl⟩) | ((with_reducible refine (goes_7 a1 a0 _ x1 y1 x0 y0 false DD.out).mono ?_); rintro e w' ⟨rfl, rfl⟩))
        go_ret
        exact ⟨rfl, hb1⟩
    · by_cases k1 : a0 < a1
      · have d5 : (a0 == a1) = false := by simpa using he
        have d6 : (a0 != a1) = true := by simpa using he
        have d7 : decide (wrap32 a0 < wrap32 a1) = false := decide_eq_false (by omega)
        have d8 : decide (wrap32 a1 ≤ wrap32 a0) = true := decide_eq_true (by omega)
        have d9 : decide (a0 < a1) = true := decide_eq_true (by omega)
        have d10 : decide (a1 ≤ a0) = false := decide_eq_false (by omega)
        have dd : decide (wrap32 a1 < wrap32 a0) = true := decide_eq_true (by omega)
        have q1 : (a0 == a1) = false := d5
        have e1 : Al.slt a0 a1 = 0 := if_neg (by omega)
        have e2 : Al.sltu a0 a1 = 1 := if_pos (by omega)
        have D5 := Lib.hid d5
        have D6 := Lib.hid d6
        have D7 := Lib.hid d7
        have D8 := Lib.hid d8
        have D9 := Lib.hid d9
        have D10 := Lib.hid d10
        have DD := Lib.hid dd
        clear d5 d6 d7 d8 d9 d10 dd
        go_enter Try.func8, Try.ntmps8
        go_wp2_with fail
        refine (alive_c _).mono ?_
        rintro e w1 ⟨rfl, hb1⟩
        go_wp2_with fail
        refine (do1_31 a0 a1 _ x0 y0 x1 y1).mono ?_
        rintro e w' ⟨rfl, rfl⟩
        go_wp2_with fail
        refine (do1_32 a0 a1 _ x0 y0 x1 y1).mono ?_
        rintro e w' ⟨rfl, rfl⟩
        go_wp2_with (first | ((with_reducible refine (goes_5 a0 a1 _ x0 y0 x1 y1 false D5.out).mono ?_); rintro e w' ⟨rfl, rfl⟩) | ((with_reducible refine (goes_6 a0 a1 _ x0 y0 x1 y1 true D6.out).mono ?_); rintro e w' ⟨rfl, rfl⟩) | ((with_reducible refine (goes_7 a0 a1 _ x0 y0 x1 y1 false D7.out).mono ?_); rintro e w' ⟨rfl, rfl⟩) | ((with_reducible refine (goes_8 a0 a1 _ x0 y0 x1 y1 true D8.out).mono ?_); rintro e w' ⟨rfl, rfl⟩) | ((with_reducible refine (goes_9 a0 a1 _ x0 y0 x1 y1 true D9.out).mono ?_); rintro e w' ⟨rfl, rfl⟩) | ((with_reducible refine (goes_10 a0 a1 _ x0 y0 x1 y1 false D10.out).mono ?_); rintro e w' ⟨rfl, rfl⟩) | ((with_reducible refine (goes_7 a1 a0 _ x1 y1 x0 y0 true DD.out).mono ?_); rintro e w' ⟨rfl, rfl⟩))
        go_ret
        exact ⟨rfl, hb1⟩
      · have d5 : (a0 == a1) = false := by simpa using he
        have d6 : (a0 != a1) = true := by simpa using he
        have d7 : decide (wrap32 a0 < wrap32 a1) = false := decide_eq_false (by omega)
        have d8 : decide (wrap32 a1 ≤ wrap32 a0) = true := decide_eq_true (by omega)
        have d9 : decide (a0 < a1) = false := decide_eq_false (by omega)
        have d10 : decide (a1 ≤ a0) = true := decide_eq_true (by omega)
        have dd : decide (wrap32 a1 < wrap32 a0) = true := decide_eq_true (by omega)
        have q1 : (a0 == a1) = false := d5
        have e1 : Al.slt a0 a1 = 0 := if_neg (by omega)
        have e2 : Al.sltu a0 a1 = 0 := if_neg (by omega)
        have D5 := Lib.hid d5
        have D6 := Lib.hid d6
        have D7 := Lib.hid d7
        have D8 := Lib.hid d8
        have D9 := Lib.hid d9
        have D10 := Lib.hid d10
        have DD := Lib.hid dd
        clear d5 d6 d7 d8 d9 d10 dd
        go_enter Try.func8, Try.ntmps8
        go_wp2_with fail
        refine (alive_c _).mono ?_
        rintro e w1 ⟨rfl, hb1⟩
        go_wp2_with fail
        refine (do1_31 a0 a1 _ x0 y0 x1 y1).mono ?_
        rintro e w' ⟨rfl, rfl⟩
        go_wp2_with fail
        refine (do1_32 a0 a1 _ x0 y0 x1 y1).mono ?_
        rintro e w' ⟨rfl, rfl⟩
        go_wp2_with (first | ((with_reducible refine (goes_5 a0 a1 _ x0 y0 x1 y1 false D5.out).mono ?_); rintro e w' ⟨rfl, rfl⟩) | ((with_reducible refine (goes_6 a0 a1 _ x0 y0 x1 y1 true D6.out).mono ?_); rintro e w' ⟨rfl, rfl⟩) | ((with_reducible refine (goes_7 a0 a1 _ x0 y0 x1 y1 false D7.out).mono ?_); rintro e w' ⟨rfl, rfl⟩) | ((with_reducible refine (goes_8 a0 a1 _ x0 y0 x1 y1 true D8.out).mono ?_); rintro e w' ⟨rfl, rfl⟩) | ((with_reducible refine (goes_9 a0 a1 _ x0 y0 x1 y1 false D9.out).mono ?_); rintro e w' ⟨rfl, rfl⟩) | ((with_reducible refine (goes_10 a0 a1 _ x0 y0 x1 y1 true D10.out).mono ?_); rintro e w' ⟨rfl, rfl⟩) | ((with_reducible refine (goes_7 a1 a0 _ x1 y1 x0 y0 true DD.out).mono ?_); rintro e w' ⟨rfl, rfl⟩))
        go_ret
        exact ⟨rfl, hb1⟩
    · exact absurd h1 he

end Laws12
end Go.Proofs.Ytjecffjiaappoaa

/- The walk of the law AluDivides of package alu: it returns true for every input and writes nothing that was there. -/
import Derived.Test.YtjecffjiaappoaaLaws12
import Derived.Test.YtjecffjiaappoaaAlLaws
namespace Go.Proofs.Ytjecffjiaappoaa
open Go.RowKit
set_option linter.unusedVariables false
namespace Laws12
theorem AluDivides_c (a0 a1 : Int) (w : World) (w0 : (Lit.int .u32 a0).wf = true) (w1 : (Lit.int .u32 a1).wf = true) :
    Calls Try.prog 5 #[.int .u32 a0, .int .u32 a1] w fun e w' => e = .returned (.bool true) ∧ Below w.heap.size w w' := by
  obtain ⟨x0, y0⟩ := wf_u32 w0
  obtain ⟨x1, y1⟩ := wf_u32 w1
  clear w0 w1
  by_cases hz : a1 = 0
  · subst hz
    have e1 : Al.divu a0 0 = 4294967295 := rfl
    have e2 : Al.remu a0 0 = a0 := rfl
    have e3 : Al.div a0 0 = 4294967295 := rfl
    have e4 : Al.rem a0 0 = a0 := rfl
    go_enter Try.func5, Try.ntmps5
    go_wp2_with fail
    refine (alive_c _).mono ?_
    rintro e w1 ⟨rfl, hb1⟩
    go_wp2_with fail
    refine (do1_43 a0 0 _ x0 y0 (by decide) (by decide)).mono ?_
    rintro e w2 ⟨rfl, hb2⟩
    go_wp2_with fail
    refine (do1_45 a0 0 _ x0 y0 (by decide) (by decide)).mono ?_
    rintro e w3 ⟨rfl, hb3⟩
    go_wp2_with fail
    refine (do1_42 a0 0 _ x0 y0 (by decide) (by decide)).mono ?_
    rintro e w4 ⟨rfl, hb4⟩
    go_wp2_with fail
    refine (do1_44 a0 0 _ x0 y0 (by decide) (by decide)).mono ?_
    rintro e w5 ⟨rfl, hb5⟩
    go_wp2_with fail
    go_ret
    exact ⟨rfl, below_next (below_next (below_next (below_next hb1 hb2) hb3) hb4) hb5⟩
  · have hz' : (a1 == 0) = false := by simpa using hz
    have f1 := Al.divu_back x0 y0 x1 y1 hz
    have f2 := Al.remu_lt a0 x1 hz
    have f3 := Al.div_back x0 y0 x1 y1 hz
    obtain ⟨g1, g2⟩ := Al.rem_sign (a := a0) x1 y1 hz
    obtain ⟨u1, u2⟩ := Bt.wrap32_rng a0
    obtain ⟨u3, u4⟩ := Bt.wrap32_rng a1
    obtain ⟨u5, u6⟩ := Bt.wrap32_rng (Al.rem a0 a1)
    by_cases c1 : wrap32 a0 < 0
    · obtain ⟨g3, g4, g5⟩ := g1 c1
      clear g1 g2
      by_cases c2 : wrap32 a1 < 0
      · have g6 := g4 c2
        clear g4 g5
        go_enter Try.func5, Try.ntmps5
        go_wp2_with fail
        refine (alive_c _).mono ?_
        rintro e w1 ⟨rfl, hb1⟩
        go_wp2_with fail
        refine (do1_43 a0 a1 _ x0 y0 x1 y1).mono ?_
        rintro e w2 ⟨rfl, hb2⟩
        go_wp2_with fail
        refine (do1_45 a0 a1 _ x0 y0 x1 y1).mono ?_
        rintro e w3 ⟨rfl, hb3⟩
        go_wp2_with fail
        refine (do1_42 a0 a1 _ x0 y0 x1 y1).mono ?_
        rintro e w4 ⟨rfl, hb4⟩
        go_wp2_with fail
        refine (do1_44 a0 a1 _ x0 y0 x1 y1).mono ?_
        rintro e w5 ⟨rfl, hb5⟩
        go_wp2_with fail
        go_ret
        exact ⟨rfl, below_next (below_next (below_next (below_next hb1 hb2) hb3) hb4) hb5⟩
      · have g6 := g5 (by omega)
        clear g4 g5
        go_enter Try.func5, Try.ntmps5
        go_wp2_with fail
        refine (alive_c _).mono ?_
        rintro e w1 ⟨rfl, hb1⟩
        go_wp2_with fail
        refine (do1_43 a0 a1 _ x0 y0 x1 y1).mono ?_
        rintro e w2 ⟨rfl, hb2⟩
        go_wp2_with fail
        refine (do1_45 a0 a1 _ x0 y0 x1 y1).mono ?_
        rintro e w3 ⟨rfl, hb3⟩
        go_wp2_with fail
        refine (do1_42 a0 a1 _ x0 y0 x1 y1).mono ?_
        rintro e w4 ⟨rfl, hb4⟩
        go_wp2_with fail
        refine (do1_44 a0 a1 _ x0 y0 x1 y1).mono ?_
        rintro e w5 ⟨rfl, hb5⟩
        go_wp2_with fail
        go_ret
        exact ⟨rfl, below_next (below_next (below_next (below_next hb1 hb2) hb3) hb4) hb5⟩
    · obtain ⟨g3, g4, g5⟩ := g2 (by omega)
      clear g1 g2
      by_cases c2 : wrap32 a1 < 0
      · have g6 := g4 c2
        clear g4 g5
        go_enter Try.func5, Try.ntmps5
        go_wp2_with fail
        refine (alive_c _).mono ?_
        rintro e w1 ⟨rfl, hb1⟩
        go_wp2_with fail
        refine (do1_43 a0 a1 _ x0 y0 x1 y1).mono ?_
        rintro e w2 ⟨rfl, hb2⟩
        go_wp2_with fail
        refine (do1_45 a0 a1 _ x0 y0 x1 y1).mono ?_
        rintro e w3 ⟨rfl, hb3⟩
        go_wp2_with fail
        refine (do1_42 a0 a1 _ x0 y0 x1 y1).mono ?_
        rintro e w4 ⟨rfl, hb4⟩
        go_wp2_with fail
        refine (do1_44 a0 a1 _ x0 y0 x1 y1).mono ?_
        rintro e w5 ⟨rfl, hb5⟩
        go_wp2_with fail
        go_ret
        exact ⟨rfl, below_next (below_next (below_next (below_next hb1 hb2) hb3) hb4) hb5⟩
      · have g6 := g5 (by omega)
        clear g4 g5
        go_enter Try.func5, Try.ntmps5
        go_wp2_with fail
        refine (alive_c _).mono ?_
        rintro e w1 ⟨rfl, hb1⟩
        go_wp2_with fail
        refine (do1_43 a0 a1 _ x0 y0 x1 y1).mono ?_
        rintro e w2 ⟨rfl, hb2⟩
        go_wp2_with fail
        refine (do1_45 a0 a1 _ x0 y0 x1 y1).mono ?_
        rintro e w3 ⟨rfl, hb3⟩
        go_wp2_with fail
        refine (do1_42 a0 a1 _ x0 y0 x1 y1).mono ?_
        rintro e w4 ⟨rfl, hb4⟩
        go_wp2_with fail
        refine (do1_44 a0 a1 _ x0 y0 x1 y1).mono ?_
        rintro e w5 ⟨rfl, hb5⟩
        go_wp2_with fail
        go_ret
        exact ⟨rfl, below_next (below_next (below_next (below_next hb1 hb2) hb3) hb4) hb5⟩

end Laws12
end Go.Proofs.Ytjecffjiaappoaa

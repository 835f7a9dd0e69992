/- ModelNew: so many sectors there are, and they are nothing. No condition. -/
import Derived.Test.YtlfabajceflpdaaLive9
import Derived.Test.YtlfabajceflpdaaArgs9
namespace Go.Proofs.Ytlfabajceflpdaa
open Go.RowKit Md
set_option linter.unusedVariables false
attribute [local go_sem] max2_int min2_int max_two min_two Sec.eqx Sec.guardx
namespace L09New
set_option maxHeartbeats 1000000 in
set_option maxRecDepth 100000 in
theorem ModelNew_c (a0 : Int) (w : World) (w0 : (Lit.int .i64 a0).wf = true) :
    Calls Try.prog 4 #[.int .i64 a0] w fun e w' => e = .returned (.bool true) ∧ Below w.heap.size w w' := by
  clear w0
  have hal := Live9.alive_c w
  obtain ⟨s, hs⟩ : ∃ s, Hid (Md.new a0 = s) := ⟨_, rfl⟩
  have hn1 : ∀ W, Calls Try.prog 19 #[.int .i64 a0] W fun e w' => ∃ a' n kap', e = .returned (stv a' n kap' s) ∧ n ≤ 1000 ∧ Lv w' a' n kap' s.sure ∧ Below W.heap.size W w' := fun W => hs.out ▸ Mod.new_c a0
  have hn2 : ∀ W, Calls Try.prog 20 #[.int .i64 a0] W fun e w' => ∃ a' n kap', e = .returned (stv a' n kap' s) ∧ n ≤ 1000 ∧ Lv w' a' n kap' s.sure ∧ Below W.heap.size W w' := fun W => hs.out ▸ Ref9.new_c a0
  unfold stv at hn1 hn2
  go_enter Try.func4, Try.ntmps4
  go_wp2_with (first | (go_at_call 9; refine hal.mono ?_; rintro e w1 ⟨rfl, B⟩; clear hal) | (go_at_call 19; refine (hn1 _).mono ?_; rintro e w2 ⟨a, n, cap, rfl, m1, La, b6⟩; clear hn1; replace B := Below.then B b6; clear b6) | (go_at_call 20; refine (hn2 _).mono ?_; rintro e w3 ⟨b, m, kap, rfl, m2, Lb, b6⟩; clear hn2; replace La := La.below b6; replace B := Below.then B b6; clear b6; obtain rfl : m = n := Lb.len.symm.trans La.len) | (go_at_call 12; refine (Ref9.same_c La Lb (by omega)).mono ?_; rintro e w4 ⟨rfl, b6⟩; replace B := Below.then B b6; clear b6))
  go_ret
  exact ⟨rfl, B⟩
end L09New
end Go.Proofs.Ytlfabajceflpdaa

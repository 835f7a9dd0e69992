/- Contracts of package walk: what recovers. -/
import Derived.Test.YtejgaldeamjplaaTo
import Derived.Defers
import Derived.Recover
import Derived.Laws.Pointers
namespace Go.Proofs.Ytejgaldeamjplaa
open Go.RowKit
set_option linter.unusedVariables false
namespace Walk
theorem assert_fault (c : Int) (w : World) : (Instr.typeAssert (.iface 51 (.int .u32 c)) 20 51 true).run Try.prog w = .ok (.tuple #[.int .u32 c, .bool true]) w := by kernel_rfl
set_option maxHeartbeats 400000 in
theorem catch_panicking (b : Nat) (c : Int) (older : List PanicEntry) (w : World) {v0 v1 v2 : Value} (h0 : w.cell? ⟨b, 0, none⟩ = some v0) (h1 : w.cell? ⟨b + 1, 0, none⟩ = some v1) (h2 : w.cell? ⟨b + 1 + 1, 0, none⟩ = some v2) (f0 : w.frozen? ⟨b, 0, none⟩ = false) (f1 : w.frozen? ⟨b + 1, 0, none⟩ = false) (f2 : w.frozen? ⟨b + 1 + 1, 0, none⟩ = false) :
    CallsD Try.prog 19 #[.pointer (some ⟨b, 0, none⟩), .pointer (some ⟨b + 1, 0, none⟩), .pointer (some ⟨b + 1 + 1, 0, none⟩)] (.panicking ({ v := .iface 51 (.int .u32 c), recovered := false } :: older)) w fun e u' w' =>
      e = .returned (.tuple #[]) ∧ u' = .panicking ({ v := .iface 51 (.int .u32 c), recovered := true } :: older) ∧ w' = ((w.setCell ⟨b, 0, none⟩ (.int .u32 0)).setCell ⟨b + 1, 0, none⟩ (.int .u32 c)).setCell ⟨b + 1 + 1, 0, none⟩ (.bool false) := by
  refine callsD_of_wpS Try.func19 rfl fun c₀ cs hu => ?_
  apply wpS_seq
  apply wpS_region
  simp [wpOpsS, go_sem, recoverD, hu, Try.ntmps19, Exit.thenS]
  refine wpS_of_wp ?_
  have hta := assert_fault
  go_wp2_with fail
  exact ⟨rfl, _, rfl, _, results_none rfl _ _ _, rfl, rfl, rfl⟩
theorem catch_idle (b : Nat) (w : World) :
    CallsD Try.prog 19 #[.pointer (some ⟨b, 0, none⟩), .pointer (some ⟨b + 1, 0, none⟩), .pointer (some ⟨b + 1 + 1, 0, none⟩)] .returning w fun e u' w' => e = .returned (.tuple #[]) ∧ u' = .returning ∧ w' = w := by
  refine callsD_of_wpS Try.func19 rfl fun c₀ cs hu => ?_
  apply wpS_seq
  apply wpS_region
  simp [wpOpsS, go_sem, recoverD, hu, Try.ntmps19, Exit.thenS]
  refine wpS_of_wp ?_
  go_wp2_with fail
  exact ⟨rfl, .returning, by cases c₀; simp_all, _, results_none rfl _ _ _, rfl, rfl, rfl⟩
end Walk
end Go.Proofs.Ytejgaldeamjplaa

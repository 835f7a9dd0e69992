/- Arguments of the laws of dioptralaw11, opened. -/
import Derived.Test.YtpdemjdjgehpgaaDliv
import Derived.Test.YtpdemjdjgehpgaaOpen
namespace Go.Proofs.Ytpdemjdjgehpgaa
open Go.RowKit Dc
set_option linter.unusedVariables false
namespace Kit11
open Dec
theorem op_of {w : World} {l : List Value} (h : Sh.ok w (.agg 5 [(0, 1, .int .i64), (1, 1, .int .i64), (2, 1, .int .i64), (3, 1, .int .i64), (4, 1, .int .u32)]) l) :
    ∃ o : Dc.Op, l = [.int .i64 o.name, .int .i64 o.rd, .int .i64 o.r1, .int .i64 o.r2, .int .u32 o.imm] ∧ (-9223372036854775808 ≤ o.name ∧ o.name ≤ 9223372036854775807) ∧ (0 ≤ o.imm ∧ o.imm < 4294967296) := by
  obtain ⟨hn, ho⟩ := h
  obtain ⟨x, y, z, u, v, rfl⟩ : ∃ x y z u v, l = [x, y, z, u, v] := by
    match l, hn with
    | [x, y, z, u, v], _ => exact ⟨x, y, z, u, v, rfl⟩
  simp only [Sh.oks, Sh.ok] at ho
  obtain ⟨⟨n0, q0, w0⟩, ⟨n1, q1, w1⟩, ⟨n2, q2, w2⟩, ⟨n3, q3, w3⟩, ⟨n4, q4, w4⟩, _⟩ := ho
  simp at q0 q1 q2 q3 q4
  subst q0 q1 q2 q3 q4
  exact ⟨⟨n0, n1, n2, n3, n4⟩, rfl, wf_i64 w0, wf_u32 w4⟩
theorem opv_of {w : World} {cs : Array Value} (h : Sh.ok w (.agg 5 [(0, 1, .int .i64), (1, 1, .int .i64), (2, 1, .int .i64), (3, 1, .int .i64), (4, 1, .int .u32)]) cs.toList) :
    ∃ o : Dc.Op, (.agg cs : Value) = opv o ∧ (-9223372036854775808 ≤ o.name ∧ o.name ≤ 9223372036854775807) ∧ (0 ≤ o.imm ∧ o.imm < 4294967296) := by
  obtain ⟨o, e, h1, h2⟩ := op_of h
  obtain ⟨l⟩ := cs
  change l = _ at e
  subst e
  exact ⟨o, rfl, h1, h2⟩
end Kit11
end Go.Proofs.Ytpdemjdjgehpgaa

/- Two rows of four words, compared. -/
import Derived.Test.YtlfabajceflpdaaSec
import Derived.DeepKeys
import Derived.Laws.StructEq
import Derived.KernelRfl
namespace Go.Proofs.Ytlfabajceflpdaa
open Go.RowKit Md
set_option linter.unusedVariables false
namespace Sec
theorem underA : Try.prog.underlying 24 = some (.array 4 23) := by kernel_rfl
theorem underU : Try.prog.underlying 23 = some (.int .u32) := by kernel_rfl
theorem infoU : (Try.prog.info? 23).map (fun i => (i.zero, i.size, i.bytes)) = some (some (.int .u32 0), 1, 4) := by kernel_rfl
theorem cellsU : Try.prog.cellsOf 23 = 1 := by kernel_rfl
theorem part0 (w : World) (a b c d : Int) : (part 23 #[.int .u32 a, .int .u32 b, .int .u32 c, .int .u32 d] 0).run Try.prog w = .ok (.int .u32 a) w := by kernel_rfl
theorem part1 (w : World) (a b c d : Int) : (part 23 #[.int .u32 a, .int .u32 b, .int .u32 c, .int .u32 d] 1).run Try.prog w = .ok (.int .u32 b) w := by kernel_rfl
theorem part2 (w : World) (a b c d : Int) : (part 23 #[.int .u32 a, .int .u32 b, .int .u32 c, .int .u32 d] 2).run Try.prog w = .ok (.int .u32 c) w := by kernel_rfl
theorem part3 (w : World) (a b c d : Int) : (part 23 #[.int .u32 a, .int .u32 b, .int .u32 c, .int .u32 d] 3).run Try.prog w = .ok (.int .u32 d) w := by kernel_rfl
theorem equ (w : World) (a b : Int) : (Op.equalIn 9999 23 (.int .u32 a) (.int .u32 b)).run Try.prog w = .ok (a == b) w := run_equalIn_int w 9998 _ _ _ a b underU
theorem eq4 (w : World) (p q : V) : (Op.equalIn 10000 24 (vv p) (vv q)).run Try.prog w = .ok (decide (p = q)) w := by
  obtain ⟨i0, hi, _⟩ := info_parts infoU
  have hd : decide (p = q) = (p.a == q.a && p.b == q.b && p.c == q.c && p.d == q.d) := by
    rw [Bool.eq_iff_iff]; cases p; cases q; simp [and_assoc]
  rw [hd]
  unfold vv
  rw [run_equalIn_array w 9999 _ _ underA hi, cellsU]
  cases h1 : (p.a == q.a) <;> cases h2 : (p.b == q.b) <;> cases h3 : (p.c == q.c) <;> cases h4 : (p.d == q.d) <;> simp only [Op.eqItems, List.range_succ, List.range_zero, List.nil_append, List.cons_append, Sem.run_bind, Nat.mul_one, part0, part1, part2, part3, Result.andThen_ok, equ, h1, h2, h3, h4, Bool.not_true, Bool.not_false, Bool.false_eq_true, if_true, if_false, Sem.run_pure, Bool.and_true, Bool.and_false]
theorem neql4 (w : World) (p q : V) : (binOp .neq 24 (vv p) (vv q)).run Try.prog w = .ok (.bool (!decide (p = q))) w := by
  have := eq4 w p q
  unfold vv at this ⊢
  rw [run_neq_struct, this]; rfl
theorem eql4 (w : World) (p q : V) : (binOp .eql 24 (vv p) (vv q)).run Try.prog w = .ok (.bool (decide (p = q))) w := by
  have := eq4 w p q
  unfold vv at this ⊢
  rw [run_eql_struct, this]; rfl
theorem guard4 (w : World) (op : BinOp) (x y : Operand) (xs ys : Array Value) : (eqGuard op 24 x y (.agg xs) (.agg ys)).run Try.prog w = .ok () w := run_eqGuard_agg w op _ x y xs ys (by kernel_rfl)
theorem eqx (w : World) (p q : V) : (Op.equalIn 10000 24 (.agg #[.int .u32 p.a, .int .u32 p.b, .int .u32 p.c, .int .u32 p.d]) (.agg #[.int .u32 q.a, .int .u32 q.b, .int .u32 q.c, .int .u32 q.d])).run Try.prog w = .ok (decide (p = q)) w := eq4 w p q
theorem guardx : Try.prog.eqGuardType Try.prog.depth 24 = false := by kernel_rfl
end Sec
end Go.Proofs.Ytlfabajceflpdaa

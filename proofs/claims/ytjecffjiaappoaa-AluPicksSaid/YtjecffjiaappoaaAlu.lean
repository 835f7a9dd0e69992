/- Contracts of package alu: what each name comes to. -/
import Derived.Test.YtjecffjiaappoaaRef1
import Derived.Test.YtjecffjiaappoaaOpen
import Derived.Test.YtjecffjiaappoaaAl
namespace Go.Proofs.Ytjecffjiaappoaa
open Go.RowKit
set_option linter.unusedVariables false
namespace Alu
theorem makeFunc_run {P : Program} (fn : Fn) (first cap : Array Value) (w : World) : (Instr.makeFunc fn first cap).run P w = .ok (.func fn first cap) w := rfl
theorem cell_two_last (w : World) (u v : Value) (t1 t2 : TypeId) : ((w.alloc (.cells #[u] t1)).alloc (.cells #[v] t2)).cell? ⟨w.heap.size + 1, 0, none⟩ = some v := by
  have h : ((w.alloc (.cells #[u] t1)).alloc (.cells #[v] t2)).heap[w.heap.size + 1]? = some (.cells #[v] t2) := by
    show ((w.heap.push (.cells #[u] t1)).push (.cells #[v] t2))[w.heap.size + 1]? = _
    rw [Array.getElem?_push, if_pos (by simp)]
  simp only [World.cell?]; rw [h]; rfl
theorem cell_two_first (w : World) (u v : Value) (t1 t2 : TypeId) : ((w.alloc (.cells #[u] t1)).alloc (.cells #[v] t2)).cell? ⟨w.heap.size, 0, none⟩ = some u := by
  have h : ((w.alloc (.cells #[u] t1)).alloc (.cells #[v] t2)).heap[w.heap.size]? = some (.cells #[u] t1) := by
    show ((w.heap.push (.cells #[u] t1)).push (.cells #[v] t2))[w.heap.size]? = _
    rw [Array.getElem?_push, if_neg (by simp), Array.getElem?_push, if_pos rfl]
  simp only [World.cell?]; rw [h]; rfl
theorem eq_nil (fn : Fn) (f c : Array Value) (w : World) : (binOp .eql 43 (.func fn f c) .nilFunc).run Try.prog w = .ok (.bool false) w := by kernel_rfl
theorem eq_nil2 (w : World) : (binOp .eql 43 .nilFunc .nilFunc).run Try.prog w = .ok (.bool true) w := by kernel_rfl

theorem add_op (a b : Int) (w : World) (ha : 0 ≤ a) (ha' : a < 4294967296) (hb : 0 ≤ b) (hb' : b < 4294967296) : Calls Try.prog 37 #[.int .u32 a, .int .u32 b] w fun e w' => e = .returned (.int .u32 (Al.add a b)) ∧ w = w' := by
  go_enter Try.func37, Try.ntmps37
  go_wp2
  go_ret
  exact ⟨ret_int (rfl), rfl⟩

theorem sub_op (a b : Int) (w : World) (ha : 0 ≤ a) (ha' : a < 4294967296) (hb : 0 ≤ b) (hb' : b < 4294967296) : Calls Try.prog 38 #[.int .u32 a, .int .u32 b] w fun e w' => e = .returned (.int .u32 (Al.sub a b)) ∧ w = w' := by
  go_enter Try.func38, Try.ntmps38
  go_wp2
  go_ret
  exact ⟨ret_int (rfl), rfl⟩

theorem sll_op (a b : Int) (w : World) (ha : 0 ≤ a) (ha' : a < 4294967296) (hb : 0 ≤ b) (hb' : b < 4294967296) : Calls Try.prog 39 #[.int .u32 a, .int .u32 b] w fun e w' => e = .returned (.int .u32 (Al.sll a b)) ∧ w = w' := by
  obtain ⟨s1, s2⟩ := Al.and31_rng hb hb'
  go_enter Try.func39, Try.ntmps39
  go_wp2
  go_ret
  exact ⟨ret_int (by unfold Al.sll; rw [Al.and31 hb hb']), rfl⟩

theorem srl_op (a b : Int) (w : World) (ha : 0 ≤ a) (ha' : a < 4294967296) (hb : 0 ≤ b) (hb' : b < 4294967296) : Calls Try.prog 40 #[.int .u32 a, .int .u32 b] w fun e w' => e = .returned (.int .u32 (Al.srl a b)) ∧ w = w' := by
  obtain ⟨s1, s2⟩ := Al.and31_rng hb hb'
  go_enter Try.func40, Try.ntmps40
  go_wp2
  go_ret
  exact ⟨ret_int (by unfold Al.srl; rw [Al.and31 hb hb']), rfl⟩

theorem sra_op (a b : Int) (w : World) (ha : 0 ≤ a) (ha' : a < 4294967296) (hb : 0 ≤ b) (hb' : b < 4294967296) : Calls Try.prog 41 #[.int .u32 a, .int .u32 b] w fun e w' => e = .returned (.int .u32 (Al.sra a b)) ∧ w = w' := by
  obtain ⟨s1, s2⟩ := Al.and31_rng hb hb'
  go_enter Try.func41, Try.ntmps41
  go_wp2
  go_ret
  exact ⟨ret_int (by unfold Al.sra; rw [Al.and31 hb hb']), rfl⟩

theorem slt_op (a b : Int) (w : World) (ha : 0 ≤ a) (ha' : a < 4294967296) (hb : 0 ≤ b) (hb' : b < 4294967296) : Calls Try.prog 42 #[.int .u32 a, .int .u32 b] w fun e w' => e = .returned (.int .u32 (Al.slt a b)) ∧ w = w' := by
  by_cases h : wrap32 a < wrap32 b
  · go_enter Try.func42, Try.ntmps42
    go_wp2
    go_ret
    exact ⟨ret_int (by unfold Al.slt; rw [if_pos h]), rfl⟩
  · go_enter Try.func42, Try.ntmps42
    go_wp2
    go_ret
    exact ⟨ret_int (by unfold Al.slt; rw [if_neg (Int.not_lt.2 h)]), rfl⟩

theorem sltu_op (a b : Int) (w : World) (ha : 0 ≤ a) (ha' : a < 4294967296) (hb : 0 ≤ b) (hb' : b < 4294967296) : Calls Try.prog 44 #[.int .u32 a, .int .u32 b] w fun e w' => e = .returned (.int .u32 (Al.sltu a b)) ∧ w = w' := by
  by_cases h : a < b
  · go_enter Try.func44, Try.ntmps44
    go_wp2
    go_ret
    exact ⟨ret_int (by unfold Al.sltu; rw [if_pos h]), rfl⟩
  · go_enter Try.func44, Try.ntmps44
    go_wp2
    go_ret
    exact ⟨ret_int (by unfold Al.sltu; rw [if_neg (Int.not_lt.2 h)]), rfl⟩

theorem xor_op (a b : Int) (w : World) (ha : 0 ≤ a) (ha' : a < 4294967296) (hb : 0 ≤ b) (hb' : b < 4294967296) : Calls Try.prog 45 #[.int .u32 a, .int .u32 b] w fun e w' => e = .returned (.int .u32 (Al.xor a b)) ∧ w = w' := by
  go_enter Try.func45, Try.ntmps45
  go_wp2
  go_ret
  exact ⟨ret_int (rfl), rfl⟩

theorem or_op (a b : Int) (w : World) (ha : 0 ≤ a) (ha' : a < 4294967296) (hb : 0 ≤ b) (hb' : b < 4294967296) : Calls Try.prog 46 #[.int .u32 a, .int .u32 b] w fun e w' => e = .returned (.int .u32 (Al.or a b)) ∧ w = w' := by
  go_enter Try.func46, Try.ntmps46
  go_wp2
  go_ret
  exact ⟨ret_int (rfl), rfl⟩

theorem and_op (a b : Int) (w : World) (ha : 0 ≤ a) (ha' : a < 4294967296) (hb : 0 ≤ b) (hb' : b < 4294967296) : Calls Try.prog 47 #[.int .u32 a, .int .u32 b] w fun e w' => e = .returned (.int .u32 (Al.and a b)) ∧ w = w' := by
  go_enter Try.func47, Try.ntmps47
  go_wp2
  go_ret
  exact ⟨ret_int (rfl), rfl⟩

theorem mul_op (a b : Int) (w : World) (ha : 0 ≤ a) (ha' : a < 4294967296) (hb : 0 ≤ b) (hb' : b < 4294967296) : Calls Try.prog 48 #[.int .u32 a, .int .u32 b] w fun e w' => e = .returned (.int .u32 (Al.mul a b)) ∧ w = w' := by
  go_enter Try.func48, Try.ntmps48
  go_wp2
  go_ret
  exact ⟨ret_int (rfl), rfl⟩

theorem mulh_op (a b : Int) (w : World) (ha : 0 ≤ a) (ha' : a < 4294967296) (hb : 0 ≤ b) (hb' : b < 4294967296) : Calls Try.prog 49 #[.int .u32 a, .int .u32 b] w fun e w' => e = .returned (.int .u32 (Al.mulh a b)) ∧ w = w' := by
  go_enter Try.func49, Try.ntmps49
  go_wp2
  go_ret
  exact ⟨ret_int (Al.mulh_fin a b), rfl⟩

theorem mulhsu_op (a b : Int) (w : World) (ha : 0 ≤ a) (ha' : a < 4294967296) (hb : 0 ≤ b) (hb' : b < 4294967296) : Calls Try.prog 50 #[.int .u32 a, .int .u32 b] w fun e w' => e = .returned (.int .u32 (Al.mulhsu a b)) ∧ w = w' := by
  go_enter Try.func50, Try.ntmps50
  go_wp2
  go_ret
  exact ⟨ret_int (Al.mulhsu_fin hb hb'), rfl⟩

theorem mulhu_op (a b : Int) (w : World) (ha : 0 ≤ a) (ha' : a < 4294967296) (hb : 0 ≤ b) (hb' : b < 4294967296) : Calls Try.prog 51 #[.int .u32 a, .int .u32 b] w fun e w' => e = .returned (.int .u32 (Al.mulhu a b)) ∧ w = w' := by
  have m := Al.mul_rng ha ha' hb hb'
  go_enter Try.func51, Try.ntmps51
  go_wp2
  go_ret
  exact ⟨rfl, rfl⟩

theorem div_op (a b : Int) (w : World) (p q : Addr) (hp : w.cell? p = some (.func (.func 35) #[] #[])) (hq : w.cell? q = some (.func (.func 53) #[] #[])) (ha : 0 ≤ a) (ha' : a < 4294967296) (hb : 0 ≤ b) (hb' : b < 4294967296) : Calls Try.prog 64 #[.int .u32 a, .int .u32 b, .pointer (some p), .pointer (some q)] w fun e w' => e = .returned (.int .u32 (Al.div a b)) ∧ w = w' := by
  by_cases hz : b = 0
  · subst hz
    go_enter Try.func64, Try.ntmps64
    go_wp2
    go_ret
    exact ⟨rfl, rfl⟩
  · have hz' : (b == 0) = false := by simpa using hz
    have hz2 : ¬ wrap32 b = 0 := by have := Al.wrap32_cases hb hb'; omega
    go_enter Try.func64, Try.ntmps64
    go_wp2
    go_ret
    exact ⟨ret_int (Al.div_32 hz), rfl⟩

theorem divu_op (a b : Int) (w : World) (p q : Addr) (hp : w.cell? p = some (.func (.func 35) #[] #[])) (hq : w.cell? q = some (.func (.func 55) #[] #[])) (ha : 0 ≤ a) (ha' : a < 4294967296) (hb : 0 ≤ b) (hb' : b < 4294967296) : Calls Try.prog 65 #[.int .u32 a, .int .u32 b, .pointer (some p), .pointer (some q)] w fun e w' => e = .returned (.int .u32 (Al.divu a b)) ∧ w = w' := by
  by_cases hz : b = 0
  · subst hz
    go_enter Try.func65, Try.ntmps65
    go_wp2
    go_ret
    exact ⟨rfl, rfl⟩
  · have hz' : (b == 0) = false := by simpa using hz
    have hz2 : ¬ wrap32 b = 0 := by have := Al.wrap32_cases hb hb'; omega
    go_enter Try.func65, Try.ntmps65
    go_wp2
    go_ret
    exact ⟨ret_int (Al.divu_fin hz), rfl⟩

theorem rem_op (a b : Int) (w : World) (p q : Addr) (hp : w.cell? p = some (.func (.func 36) #[] #[])) (hq : w.cell? q = some (.func (.func 56) #[] #[])) (ha : 0 ≤ a) (ha' : a < 4294967296) (hb : 0 ≤ b) (hb' : b < 4294967296) : Calls Try.prog 64 #[.int .u32 a, .int .u32 b, .pointer (some p), .pointer (some q)] w fun e w' => e = .returned (.int .u32 (Al.rem a b)) ∧ w = w' := by
  by_cases hz : b = 0
  · subst hz
    go_enter Try.func64, Try.ntmps64
    go_wp2
    go_ret
    exact ⟨rfl, rfl⟩
  · have hz' : (b == 0) = false := by simpa using hz
    have hz2 : ¬ wrap32 b = 0 := by have := Al.wrap32_cases hb hb'; omega
    go_enter Try.func64, Try.ntmps64
    go_wp2
    go_ret
    exact ⟨ret_int (Al.rem_fin hz), rfl⟩

theorem remu_op (a b : Int) (w : World) (p q : Addr) (hp : w.cell? p = some (.func (.func 36) #[] #[])) (hq : w.cell? q = some (.func (.func 57) #[] #[])) (ha : 0 ≤ a) (ha' : a < 4294967296) (hb : 0 ≤ b) (hb' : b < 4294967296) : Calls Try.prog 65 #[.int .u32 a, .int .u32 b, .pointer (some p), .pointer (some q)] w fun e w' => e = .returned (.int .u32 (Al.remu a b)) ∧ w = w' := by
  by_cases hz : b = 0
  · subst hz
    go_enter Try.func65, Try.ntmps65
    go_wp2
    go_ret
    exact ⟨rfl, rfl⟩
  · have hz' : (b == 0) = false := by simpa using hz
    have hz2 : ¬ wrap32 b = 0 := by have := Al.wrap32_cases hb hb'; omega
    go_enter Try.func65, Try.ntmps65
    go_wp2
    go_ret
    exact ⟨ret_int (Al.remu_fin hz), rfl⟩

theorem does_19 (w : World) : Calls Try.prog 26 #[.int .i64 19] w fun e w' => e = .returned (.func (.func 37) #[] #[]) ∧ w = w' := by
  have hmf := @makeFunc_run Try.prog
  go_enter Try.func26, Try.ntmps26
  go_wp2
  go_ret
  exact ⟨rfl, rfl⟩

theorem do_19 (a b : Int) (w : World) (ha : 0 ≤ a) (ha' : a < 4294967296) (hb : 0 ≤ b) (hb' : b < 4294967296) : Calls Try.prog 12 #[.int .i64 19, .int .u32 a, .int .u32 b] w fun e w' => e = .returned (.tuple #[.int .u32 (Al.add a b), .bool true]) ∧ w = w' := by
  have hnil := eq_nil
  go_enter Try.func12, Try.ntmps12
  go_wp2_with (first | (go_at_call 26; refine (does_19 _).mono ?_; rintro e w' ⟨rfl, rfl⟩) | (go_at_call 37; refine (add_op a b _ ha ha' hb hb').mono ?_; rintro e w' ⟨rfl, rfl⟩))
  go_ret2
  exact ⟨rfl, rfl⟩

theorem does_20 (w : World) : Calls Try.prog 26 #[.int .i64 20] w fun e w' => e = .returned (.func (.func 42) #[] #[]) ∧ w = w' := by
  have hmf := @makeFunc_run Try.prog
  go_enter Try.func26, Try.ntmps26
  go_wp2
  go_ret
  exact ⟨rfl, rfl⟩

theorem do_20 (a b : Int) (w : World) (ha : 0 ≤ a) (ha' : a < 4294967296) (hb : 0 ≤ b) (hb' : b < 4294967296) : Calls Try.prog 12 #[.int .i64 20, .int .u32 a, .int .u32 b] w fun e w' => e = .returned (.tuple #[.int .u32 (Al.slt a b), .bool true]) ∧ w = w' := by
  have hnil := eq_nil
  go_enter Try.func12, Try.ntmps12
  go_wp2_with (first | (go_at_call 26; refine (does_20 _).mono ?_; rintro e w' ⟨rfl, rfl⟩) | (go_at_call 42; refine (slt_op a b _ ha ha' hb hb').mono ?_; rintro e w' ⟨rfl, rfl⟩))
  go_ret2
  exact ⟨rfl, rfl⟩

theorem does_21 (w : World) : Calls Try.prog 26 #[.int .i64 21] w fun e w' => e = .returned (.func (.func 44) #[] #[]) ∧ w = w' := by
  have hmf := @makeFunc_run Try.prog
  go_enter Try.func26, Try.ntmps26
  go_wp2
  go_ret
  exact ⟨rfl, rfl⟩

theorem do_21 (a b : Int) (w : World) (ha : 0 ≤ a) (ha' : a < 4294967296) (hb : 0 ≤ b) (hb' : b < 4294967296) : Calls Try.prog 12 #[.int .i64 21, .int .u32 a, .int .u32 b] w fun e w' => e = .returned (.tuple #[.int .u32 (Al.sltu a b), .bool true]) ∧ w = w' := by
  have hnil := eq_nil
  go_enter Try.func12, Try.ntmps12
  go_wp2_with (first | (go_at_call 26; refine (does_21 _).mono ?_; rintro e w' ⟨rfl, rfl⟩) | (go_at_call 44; refine (sltu_op a b _ ha ha' hb hb').mono ?_; rintro e w' ⟨rfl, rfl⟩))
  go_ret2
  exact ⟨rfl, rfl⟩

theorem does_22 (w : World) : Calls Try.prog 26 #[.int .i64 22] w fun e w' => e = .returned (.func (.func 45) #[] #[]) ∧ w = w' := by
  have hmf := @makeFunc_run Try.prog
  go_enter Try.func26, Try.ntmps26
  go_wp2
  go_ret
  exact ⟨rfl, rfl⟩

theorem do_22 (a b : Int) (w : World) (ha : 0 ≤ a) (ha' : a < 4294967296) (hb : 0 ≤ b) (hb' : b < 4294967296) : Calls Try.prog 12 #[.int .i64 22, .int .u32 a, .int .u32 b] w fun e w' => e = .returned (.tuple #[.int .u32 (Al.xor a b), .bool true]) ∧ w = w' := by
  have hnil := eq_nil
  go_enter Try.func12, Try.ntmps12
  go_wp2_with (first | (go_at_call 26; refine (does_22 _).mono ?_; rintro e w' ⟨rfl, rfl⟩) | (go_at_call 45; refine (xor_op a b _ ha ha' hb hb').mono ?_; rintro e w' ⟨rfl, rfl⟩))
  go_ret2
  exact ⟨rfl, rfl⟩

theorem does_23 (w : World) : Calls Try.prog 26 #[.int .i64 23] w fun e w' => e = .returned (.func (.func 46) #[] #[]) ∧ w = w' := by
  have hmf := @makeFunc_run Try.prog
  go_enter Try.func26, Try.ntmps26
  go_wp2
  go_ret
  exact ⟨rfl, rfl⟩

theorem do_23 (a b : Int) (w : World) (ha : 0 ≤ a) (ha' : a < 4294967296) (hb : 0 ≤ b) (hb' : b < 4294967296) : Calls Try.prog 12 #[.int .i64 23, .int .u32 a, .int .u32 b] w fun e w' => e = .returned (.tuple #[.int .u32 (Al.or a b), .bool true]) ∧ w = w' := by
  have hnil := eq_nil
  go_enter Try.func12, Try.ntmps12
  go_wp2_with (first | (go_at_call 26; refine (does_23 _).mono ?_; rintro e w' ⟨rfl, rfl⟩) | (go_at_call 46; refine (or_op a b _ ha ha' hb hb').mono ?_; rintro e w' ⟨rfl, rfl⟩))
  go_ret2
  exact ⟨rfl, rfl⟩

theorem does_24 (w : World) : Calls Try.prog 26 #[.int .i64 24] w fun e w' => e = .returned (.func (.func 47) #[] #[]) ∧ w = w' := by
  have hmf := @makeFunc_run Try.prog
  go_enter Try.func26, Try.ntmps26
  go_wp2
  go_ret
  exact ⟨rfl, rfl⟩

theorem do_24 (a b : Int) (w : World) (ha : 0 ≤ a) (ha' : a < 4294967296) (hb : 0 ≤ b) (hb' : b < 4294967296) : Calls Try.prog 12 #[.int .i64 24, .int .u32 a, .int .u32 b] w fun e w' => e = .returned (.tuple #[.int .u32 (Al.and a b), .bool true]) ∧ w = w' := by
  have hnil := eq_nil
  go_enter Try.func12, Try.ntmps12
  go_wp2_with (first | (go_at_call 26; refine (does_24 _).mono ?_; rintro e w' ⟨rfl, rfl⟩) | (go_at_call 47; refine (and_op a b _ ha ha' hb hb').mono ?_; rintro e w' ⟨rfl, rfl⟩))
  go_ret2
  exact ⟨rfl, rfl⟩

theorem does_25 (w : World) : Calls Try.prog 26 #[.int .i64 25] w fun e w' => e = .returned (.func (.func 39) #[] #[]) ∧ w = w' := by
  have hmf := @makeFunc_run Try.prog
  go_enter Try.func26, Try.ntmps26
  go_wp2
  go_ret
  exact ⟨rfl, rfl⟩

theorem do_25 (a b : Int) (w : World) (ha : 0 ≤ a) (ha' : a < 4294967296) (hb : 0 ≤ b) (hb' : b < 4294967296) : Calls Try.prog 12 #[.int .i64 25, .int .u32 a, .int .u32 b] w fun e w' => e = .returned (.tuple #[.int .u32 (Al.sll a b), .bool true]) ∧ w = w' := by
  have hnil := eq_nil
  go_enter Try.func12, Try.ntmps12
  go_wp2_with (first | (go_at_call 26; refine (does_25 _).mono ?_; rintro e w' ⟨rfl, rfl⟩) | (go_at_call 39; refine (sll_op a b _ ha ha' hb hb').mono ?_; rintro e w' ⟨rfl, rfl⟩))
  go_ret2
  exact ⟨rfl, rfl⟩

theorem does_26 (w : World) : Calls Try.prog 26 #[.int .i64 26] w fun e w' => e = .returned (.func (.func 40) #[] #[]) ∧ w = w' := by
  have hmf := @makeFunc_run Try.prog
  go_enter Try.func26, Try.ntmps26
  go_wp2
  go_ret
  exact ⟨rfl, rfl⟩

theorem do_26 (a b : Int) (w : World) (ha : 0 ≤ a) (ha' : a < 4294967296) (hb : 0 ≤ b) (hb' : b < 4294967296) : Calls Try.prog 12 #[.int .i64 26, .int .u32 a, .int .u32 b] w fun e w' => e = .returned (.tuple #[.int .u32 (Al.srl a b), .bool true]) ∧ w = w' := by
  have hnil := eq_nil
  go_enter Try.func12, Try.ntmps12
  go_wp2_with (first | (go_at_call 26; refine (does_26 _).mono ?_; rintro e w' ⟨rfl, rfl⟩) | (go_at_call 40; refine (srl_op a b _ ha ha' hb hb').mono ?_; rintro e w' ⟨rfl, rfl⟩))
  go_ret2
  exact ⟨rfl, rfl⟩

theorem does_27 (w : World) : Calls Try.prog 26 #[.int .i64 27] w fun e w' => e = .returned (.func (.func 41) #[] #[]) ∧ w = w' := by
  have hmf := @makeFunc_run Try.prog
  go_enter Try.func26, Try.ntmps26
  go_wp2
  go_ret
  exact ⟨rfl, rfl⟩

theorem do_27 (a b : Int) (w : World) (ha : 0 ≤ a) (ha' : a < 4294967296) (hb : 0 ≤ b) (hb' : b < 4294967296) : Calls Try.prog 12 #[.int .i64 27, .int .u32 a, .int .u32 b] w fun e w' => e = .returned (.tuple #[.int .u32 (Al.sra a b), .bool true]) ∧ w = w' := by
  have hnil := eq_nil
  go_enter Try.func12, Try.ntmps12
  go_wp2_with (first | (go_at_call 26; refine (does_27 _).mono ?_; rintro e w' ⟨rfl, rfl⟩) | (go_at_call 41; refine (sra_op a b _ ha ha' hb hb').mono ?_; rintro e w' ⟨rfl, rfl⟩))
  go_ret2
  exact ⟨rfl, rfl⟩

theorem does_28 (w : World) : Calls Try.prog 26 #[.int .i64 28] w fun e w' => e = .returned (.func (.func 37) #[] #[]) ∧ w = w' := by
  have hmf := @makeFunc_run Try.prog
  go_enter Try.func26, Try.ntmps26
  go_wp2
  go_ret
  exact ⟨rfl, rfl⟩

theorem do_28 (a b : Int) (w : World) (ha : 0 ≤ a) (ha' : a < 4294967296) (hb : 0 ≤ b) (hb' : b < 4294967296) : Calls Try.prog 12 #[.int .i64 28, .int .u32 a, .int .u32 b] w fun e w' => e = .returned (.tuple #[.int .u32 (Al.add a b), .bool true]) ∧ w = w' := by
  have hnil := eq_nil
  go_enter Try.func12, Try.ntmps12
  go_wp2_with (first | (go_at_call 26; refine (does_28 _).mono ?_; rintro e w' ⟨rfl, rfl⟩) | (go_at_call 37; refine (add_op a b _ ha ha' hb hb').mono ?_; rintro e w' ⟨rfl, rfl⟩))
  go_ret2
  exact ⟨rfl, rfl⟩

theorem does_29 (w : World) : Calls Try.prog 26 #[.int .i64 29] w fun e w' => e = .returned (.func (.func 38) #[] #[]) ∧ w = w' := by
  have hmf := @makeFunc_run Try.prog
  go_enter Try.func26, Try.ntmps26
  go_wp2
  go_ret
  exact ⟨rfl, rfl⟩

theorem do_29 (a b : Int) (w : World) (ha : 0 ≤ a) (ha' : a < 4294967296) (hb : 0 ≤ b) (hb' : b < 4294967296) : Calls Try.prog 12 #[.int .i64 29, .int .u32 a, .int .u32 b] w fun e w' => e = .returned (.tuple #[.int .u32 (Al.sub a b), .bool true]) ∧ w = w' := by
  have hnil := eq_nil
  go_enter Try.func12, Try.ntmps12
  go_wp2_with (first | (go_at_call 26; refine (does_29 _).mono ?_; rintro e w' ⟨rfl, rfl⟩) | (go_at_call 38; refine (sub_op a b _ ha ha' hb hb').mono ?_; rintro e w' ⟨rfl, rfl⟩))
  go_ret2
  exact ⟨rfl, rfl⟩

theorem does_30 (w : World) : Calls Try.prog 26 #[.int .i64 30] w fun e w' => e = .returned (.func (.func 39) #[] #[]) ∧ w = w' := by
  have hmf := @makeFunc_run Try.prog
  go_enter Try.func26, Try.ntmps26
  go_wp2
  go_ret
  exact ⟨rfl, rfl⟩

theorem do_30 (a b : Int) (w : World) (ha : 0 ≤ a) (ha' : a < 4294967296) (hb : 0 ≤ b) (hb' : b < 4294967296) : Calls Try.prog 12 #[.int .i64 30, .int .u32 a, .int .u32 b] w fun e w' => e = .returned (.tuple #[.int .u32 (Al.sll a b), .bool true]) ∧ w = w' := by
  have hnil := eq_nil
  go_enter Try.func12, Try.ntmps12
  go_wp2_with (first | (go_at_call 26; refine (does_30 _).mono ?_; rintro e w' ⟨rfl, rfl⟩) | (go_at_call 39; refine (sll_op a b _ ha ha' hb hb').mono ?_; rintro e w' ⟨rfl, rfl⟩))
  go_ret2
  exact ⟨rfl, rfl⟩

theorem does_31 (w : World) : Calls Try.prog 26 #[.int .i64 31] w fun e w' => e = .returned (.func (.func 42) #[] #[]) ∧ w = w' := by
  have hmf := @makeFunc_run Try.prog
  go_enter Try.func26, Try.ntmps26
  go_wp2
  go_ret
  exact ⟨rfl, rfl⟩

theorem do_31 (a b : Int) (w : World) (ha : 0 ≤ a) (ha' : a < 4294967296) (hb : 0 ≤ b) (hb' : b < 4294967296) : Calls Try.prog 12 #[.int .i64 31, .int .u32 a, .int .u32 b] w fun e w' => e = .returned (.tuple #[.int .u32 (Al.slt a b), .bool true]) ∧ w = w' := by
  have hnil := eq_nil
  go_enter Try.func12, Try.ntmps12
  go_wp2_with (first | (go_at_call 26; refine (does_31 _).mono ?_; rintro e w' ⟨rfl, rfl⟩) | (go_at_call 42; refine (slt_op a b _ ha ha' hb hb').mono ?_; rintro e w' ⟨rfl, rfl⟩))
  go_ret2
  exact ⟨rfl, rfl⟩

theorem does_32 (w : World) : Calls Try.prog 26 #[.int .i64 32] w fun e w' => e = .returned (.func (.func 44) #[] #[]) ∧ w = w' := by
  have hmf := @makeFunc_run Try.prog
  go_enter Try.func26, Try.ntmps26
  go_wp2
  go_ret
  exact ⟨rfl, rfl⟩

theorem do_32 (a b : Int) (w : World) (ha : 0 ≤ a) (ha' : a < 4294967296) (hb : 0 ≤ b) (hb' : b < 4294967296) : Calls Try.prog 12 #[.int .i64 32, .int .u32 a, .int .u32 b] w fun e w' => e = .returned (.tuple #[.int .u32 (Al.sltu a b), .bool true]) ∧ w = w' := by
  have hnil := eq_nil
  go_enter Try.func12, Try.ntmps12
  go_wp2_with (first | (go_at_call 26; refine (does_32 _).mono ?_; rintro e w' ⟨rfl, rfl⟩) | (go_at_call 44; refine (sltu_op a b _ ha ha' hb hb').mono ?_; rintro e w' ⟨rfl, rfl⟩))
  go_ret2
  exact ⟨rfl, rfl⟩

theorem does_33 (w : World) : Calls Try.prog 26 #[.int .i64 33] w fun e w' => e = .returned (.func (.func 45) #[] #[]) ∧ w = w' := by
  have hmf := @makeFunc_run Try.prog
  go_enter Try.func26, Try.ntmps26
  go_wp2
  go_ret
  exact ⟨rfl, rfl⟩

theorem do_33 (a b : Int) (w : World) (ha : 0 ≤ a) (ha' : a < 4294967296) (hb : 0 ≤ b) (hb' : b < 4294967296) : Calls Try.prog 12 #[.int .i64 33, .int .u32 a, .int .u32 b] w fun e w' => e = .returned (.tuple #[.int .u32 (Al.xor a b), .bool true]) ∧ w = w' := by
  have hnil := eq_nil
  go_enter Try.func12, Try.ntmps12
  go_wp2_with (first | (go_at_call 26; refine (does_33 _).mono ?_; rintro e w' ⟨rfl, rfl⟩) | (go_at_call 45; refine (xor_op a b _ ha ha' hb hb').mono ?_; rintro e w' ⟨rfl, rfl⟩))
  go_ret2
  exact ⟨rfl, rfl⟩

theorem does_34 (w : World) : Calls Try.prog 26 #[.int .i64 34] w fun e w' => e = .returned (.func (.func 40) #[] #[]) ∧ w = w' := by
  have hmf := @makeFunc_run Try.prog
  go_enter Try.func26, Try.ntmps26
  go_wp2
  go_ret
  exact ⟨rfl, rfl⟩

theorem do_34 (a b : Int) (w : World) (ha : 0 ≤ a) (ha' : a < 4294967296) (hb : 0 ≤ b) (hb' : b < 4294967296) : Calls Try.prog 12 #[.int .i64 34, .int .u32 a, .int .u32 b] w fun e w' => e = .returned (.tuple #[.int .u32 (Al.srl a b), .bool true]) ∧ w = w' := by
  have hnil := eq_nil
  go_enter Try.func12, Try.ntmps12
  go_wp2_with (first | (go_at_call 26; refine (does_34 _).mono ?_; rintro e w' ⟨rfl, rfl⟩) | (go_at_call 40; refine (srl_op a b _ ha ha' hb hb').mono ?_; rintro e w' ⟨rfl, rfl⟩))
  go_ret2
  exact ⟨rfl, rfl⟩

theorem does_35 (w : World) : Calls Try.prog 26 #[.int .i64 35] w fun e w' => e = .returned (.func (.func 41) #[] #[]) ∧ w = w' := by
  have hmf := @makeFunc_run Try.prog
  go_enter Try.func26, Try.ntmps26
  go_wp2
  go_ret
  exact ⟨rfl, rfl⟩

theorem do_35 (a b : Int) (w : World) (ha : 0 ≤ a) (ha' : a < 4294967296) (hb : 0 ≤ b) (hb' : b < 4294967296) : Calls Try.prog 12 #[.int .i64 35, .int .u32 a, .int .u32 b] w fun e w' => e = .returned (.tuple #[.int .u32 (Al.sra a b), .bool true]) ∧ w = w' := by
  have hnil := eq_nil
  go_enter Try.func12, Try.ntmps12
  go_wp2_with (first | (go_at_call 26; refine (does_35 _).mono ?_; rintro e w' ⟨rfl, rfl⟩) | (go_at_call 41; refine (sra_op a b _ ha ha' hb hb').mono ?_; rintro e w' ⟨rfl, rfl⟩))
  go_ret2
  exact ⟨rfl, rfl⟩

theorem does_36 (w : World) : Calls Try.prog 26 #[.int .i64 36] w fun e w' => e = .returned (.func (.func 46) #[] #[]) ∧ w = w' := by
  have hmf := @makeFunc_run Try.prog
  go_enter Try.func26, Try.ntmps26
  go_wp2
  go_ret
  exact ⟨rfl, rfl⟩

theorem do_36 (a b : Int) (w : World) (ha : 0 ≤ a) (ha' : a < 4294967296) (hb : 0 ≤ b) (hb' : b < 4294967296) : Calls Try.prog 12 #[.int .i64 36, .int .u32 a, .int .u32 b] w fun e w' => e = .returned (.tuple #[.int .u32 (Al.or a b), .bool true]) ∧ w = w' := by
  have hnil := eq_nil
  go_enter Try.func12, Try.ntmps12
  go_wp2_with (first | (go_at_call 26; refine (does_36 _).mono ?_; rintro e w' ⟨rfl, rfl⟩) | (go_at_call 46; refine (or_op a b _ ha ha' hb hb').mono ?_; rintro e w' ⟨rfl, rfl⟩))
  go_ret2
  exact ⟨rfl, rfl⟩

theorem does_37 (w : World) : Calls Try.prog 26 #[.int .i64 37] w fun e w' => e = .returned (.func (.func 47) #[] #[]) ∧ w = w' := by
  have hmf := @makeFunc_run Try.prog
  go_enter Try.func26, Try.ntmps26
  go_wp2
  go_ret
  exact ⟨rfl, rfl⟩

theorem do_37 (a b : Int) (w : World) (ha : 0 ≤ a) (ha' : a < 4294967296) (hb : 0 ≤ b) (hb' : b < 4294967296) : Calls Try.prog 12 #[.int .i64 37, .int .u32 a, .int .u32 b] w fun e w' => e = .returned (.tuple #[.int .u32 (Al.and a b), .bool true]) ∧ w = w' := by
  have hnil := eq_nil
  go_enter Try.func12, Try.ntmps12
  go_wp2_with (first | (go_at_call 26; refine (does_37 _).mono ?_; rintro e w' ⟨rfl, rfl⟩) | (go_at_call 47; refine (and_op a b _ ha ha' hb hb').mono ?_; rintro e w' ⟨rfl, rfl⟩))
  go_ret2
  exact ⟨rfl, rfl⟩

theorem does_38 (w : World) : Calls Try.prog 26 #[.int .i64 38] w fun e w' => e = .returned (.func (.func 48) #[] #[]) ∧ w = w' := by
  have hmf := @makeFunc_run Try.prog
  go_enter Try.func26, Try.ntmps26
  go_wp2
  go_ret
  exact ⟨rfl, rfl⟩

theorem do_38 (a b : Int) (w : World) (ha : 0 ≤ a) (ha' : a < 4294967296) (hb : 0 ≤ b) (hb' : b < 4294967296) : Calls Try.prog 12 #[.int .i64 38, .int .u32 a, .int .u32 b] w fun e w' => e = .returned (.tuple #[.int .u32 (Al.mul a b), .bool true]) ∧ w = w' := by
  have hnil := eq_nil
  go_enter Try.func12, Try.ntmps12
  go_wp2_with (first | (go_at_call 26; refine (does_38 _).mono ?_; rintro e w' ⟨rfl, rfl⟩) | (go_at_call 48; refine (mul_op a b _ ha ha' hb hb').mono ?_; rintro e w' ⟨rfl, rfl⟩))
  go_ret2
  exact ⟨rfl, rfl⟩

theorem does_39 (w : World) : Calls Try.prog 26 #[.int .i64 39] w fun e w' => e = .returned (.func (.func 49) #[] #[]) ∧ w = w' := by
  have hmf := @makeFunc_run Try.prog
  go_enter Try.func26, Try.ntmps26
  go_wp2
  go_ret
  exact ⟨rfl, rfl⟩

theorem do_39 (a b : Int) (w : World) (ha : 0 ≤ a) (ha' : a < 4294967296) (hb : 0 ≤ b) (hb' : b < 4294967296) : Calls Try.prog 12 #[.int .i64 39, .int .u32 a, .int .u32 b] w fun e w' => e = .returned (.tuple #[.int .u32 (Al.mulh a b), .bool true]) ∧ w = w' := by
  have hnil := eq_nil
  go_enter Try.func12, Try.ntmps12
  go_wp2_with (first | (go_at_call 26; refine (does_39 _).mono ?_; rintro e w' ⟨rfl, rfl⟩) | (go_at_call 49; refine (mulh_op a b _ ha ha' hb hb').mono ?_; rintro e w' ⟨rfl, rfl⟩))
  go_ret2
  exact ⟨rfl, rfl⟩

theorem does_40 (w : World) : Calls Try.prog 26 #[.int .i64 40] w fun e w' => e = .returned (.func (.func 50) #[] #[]) ∧ w = w' := by
  have hmf := @makeFunc_run Try.prog
  go_enter Try.func26, Try.ntmps26
  go_wp2
  go_ret
  exact ⟨rfl, rfl⟩

theorem do_40 (a b : Int) (w : World) (ha : 0 ≤ a) (ha' : a < 4294967296) (hb : 0 ≤ b) (hb' : b < 4294967296) : Calls Try.prog 12 #[.int .i64 40, .int .u32 a, .int .u32 b] w fun e w' => e = .returned (.tuple #[.int .u32 (Al.mulhsu a b), .bool true]) ∧ w = w' := by
  have hnil := eq_nil
  go_enter Try.func12, Try.ntmps12
  go_wp2_with (first | (go_at_call 26; refine (does_40 _).mono ?_; rintro e w' ⟨rfl, rfl⟩) | (go_at_call 50; refine (mulhsu_op a b _ ha ha' hb hb').mono ?_; rintro e w' ⟨rfl, rfl⟩))
  go_ret2
  exact ⟨rfl, rfl⟩

theorem does_41 (w : World) : Calls Try.prog 26 #[.int .i64 41] w fun e w' => e = .returned (.func (.func 51) #[] #[]) ∧ w = w' := by
  have hmf := @makeFunc_run Try.prog
  go_enter Try.func26, Try.ntmps26
  go_wp2
  go_ret
  exact ⟨rfl, rfl⟩

theorem do_41 (a b : Int) (w : World) (ha : 0 ≤ a) (ha' : a < 4294967296) (hb : 0 ≤ b) (hb' : b < 4294967296) : Calls Try.prog 12 #[.int .i64 41, .int .u32 a, .int .u32 b] w fun e w' => e = .returned (.tuple #[.int .u32 (Al.mulhu a b), .bool true]) ∧ w = w' := by
  have hnil := eq_nil
  go_enter Try.func12, Try.ntmps12
  go_wp2_with (first | (go_at_call 26; refine (does_41 _).mono ?_; rintro e w' ⟨rfl, rfl⟩) | (go_at_call 51; refine (mulhu_op a b _ ha ha' hb hb').mono ?_; rintro e w' ⟨rfl, rfl⟩))
  go_ret2
  exact ⟨rfl, rfl⟩

theorem does_42 (w : World) : Calls Try.prog 26 #[.int .i64 42] w fun e w' => e = .returned (.func (.func 64) #[] #[.pointer (some ⟨w.heap.size + 1, 0, none⟩), .pointer (some ⟨w.heap.size, 0, none⟩)]) ∧ ∃ t1 t2, w' = (w.alloc (.cells #[.func (.func 53) #[] #[]] t1)).alloc (.cells #[.func (.func 35) #[] #[]] t2) := by
  have hmf := @makeFunc_run Try.prog
  go_enter Try.func26, Try.ntmps26
  go_wp2
  go_ret
  exact ⟨rfl, _, _, rfl⟩

theorem do_42 (a b : Int) (w : World) (ha : 0 ≤ a) (ha' : a < 4294967296) (hb : 0 ≤ b) (hb' : b < 4294967296) : Calls Try.prog 12 #[.int .i64 42, .int .u32 a, .int .u32 b] w fun e w' => e = .returned (.tuple #[.int .u32 (Al.div a b), .bool true]) ∧ Below w.heap.size w w' := by
  have hnil := eq_nil
  go_enter Try.func12, Try.ntmps12
  go_wp2_with (first | (go_at_call 26; refine (does_42 _).mono ?_; rintro e w' ⟨rfl, t1, t2, rfl⟩) | (go_at_call 64; refine (div_op a b _ _ _ (cell_two_last _ _ _ _ _) (cell_two_first _ _ _ _ _) ha ha' hb hb').mono ?_; rintro e w' ⟨rfl, rfl⟩))
  go_ret2
  exact ⟨rfl, ((Below.refl _ _).alloc (Nat.le_refl _) _).alloc (by simp) _⟩

theorem does_43 (w : World) : Calls Try.prog 26 #[.int .i64 43] w fun e w' => e = .returned (.func (.func 65) #[] #[.pointer (some ⟨w.heap.size + 1, 0, none⟩), .pointer (some ⟨w.heap.size, 0, none⟩)]) ∧ ∃ t1 t2, w' = (w.alloc (.cells #[.func (.func 55) #[] #[]] t1)).alloc (.cells #[.func (.func 35) #[] #[]] t2) := by
  have hmf := @makeFunc_run Try.prog
  go_enter Try.func26, Try.ntmps26
  go_wp2
  go_ret
  exact ⟨rfl, _, _, rfl⟩

theorem do_43 (a b : Int) (w : World) (ha : 0 ≤ a) (ha' : a < 4294967296) (hb : 0 ≤ b) (hb' : b < 4294967296) : Calls Try.prog 12 #[.int .i64 43, .int .u32 a, .int .u32 b] w fun e w' => e = .returned (.tuple #[.int .u32 (Al.divu a b), .bool true]) ∧ Below w.heap.size w w' := by
  have hnil := eq_nil
  go_enter Try.func12, Try.ntmps12
  go_wp2_with (first | (go_at_call 26; refine (does_43 _).mono ?_; rintro e w' ⟨rfl, t1, t2, rfl⟩) | (go_at_call 65; refine (divu_op a b _ _ _ (cell_two_last _ _ _ _ _) (cell_two_first _ _ _ _ _) ha ha' hb hb').mono ?_; rintro e w' ⟨rfl, rfl⟩))
  go_ret2
  exact ⟨rfl, ((Below.refl _ _).alloc (Nat.le_refl _) _).alloc (by simp) _⟩

theorem does_44 (w : World) : Calls Try.prog 26 #[.int .i64 44] w fun e w' => e = .returned (.func (.func 64) #[] #[.pointer (some ⟨w.heap.size + 1, 0, none⟩), .pointer (some ⟨w.heap.size, 0, none⟩)]) ∧ ∃ t1 t2, w' = (w.alloc (.cells #[.func (.func 56) #[] #[]] t1)).alloc (.cells #[.func (.func 36) #[] #[]] t2) := by
  have hmf := @makeFunc_run Try.prog
  go_enter Try.func26, Try.ntmps26
  go_wp2
  go_ret
  exact ⟨rfl, _, _, rfl⟩

theorem do_44 (a b : Int) (w : World) (ha : 0 ≤ a) (ha' : a < 4294967296) (hb : 0 ≤ b) (hb' : b < 4294967296) : Calls Try.prog 12 #[.int .i64 44, .int .u32 a, .int .u32 b] w fun e w' => e = .returned (.tuple #[.int .u32 (Al.rem a b), .bool true]) ∧ Below w.heap.size w w' := by
  have hnil := eq_nil
  go_enter Try.func12, Try.ntmps12
  go_wp2_with (first | (go_at_call 26; refine (does_44 _).mono ?_; rintro e w' ⟨rfl, t1, t2, rfl⟩) | (go_at_call 64; refine (rem_op a b _ _ _ (cell_two_last _ _ _ _ _) (cell_two_first _ _ _ _ _) ha ha' hb hb').mono ?_; rintro e w' ⟨rfl, rfl⟩))
  go_ret2
  exact ⟨rfl, ((Below.refl _ _).alloc (Nat.le_refl _) _).alloc (by simp) _⟩

theorem does_45 (w : World) : Calls Try.prog 26 #[.int .i64 45] w fun e w' => e = .returned (.func (.func 65) #[] #[.pointer (some ⟨w.heap.size + 1, 0, none⟩), .pointer (some ⟨w.heap.size, 0, none⟩)]) ∧ ∃ t1 t2, w' = (w.alloc (.cells #[.func (.func 57) #[] #[]] t1)).alloc (.cells #[.func (.func 36) #[] #[]] t2) := by
  have hmf := @makeFunc_run Try.prog
  go_enter Try.func26, Try.ntmps26
  go_wp2
  go_ret
  exact ⟨rfl, _, _, rfl⟩

theorem do_45 (a b : Int) (w : World) (ha : 0 ≤ a) (ha' : a < 4294967296) (hb : 0 ≤ b) (hb' : b < 4294967296) : Calls Try.prog 12 #[.int .i64 45, .int .u32 a, .int .u32 b] w fun e w' => e = .returned (.tuple #[.int .u32 (Al.remu a b), .bool true]) ∧ Below w.heap.size w w' := by
  have hnil := eq_nil
  go_enter Try.func12, Try.ntmps12
  go_wp2_with (first | (go_at_call 26; refine (does_45 _).mono ?_; rintro e w' ⟨rfl, t1, t2, rfl⟩) | (go_at_call 65; refine (remu_op a b _ _ _ (cell_two_last _ _ _ _ _) (cell_two_first _ _ _ _ _) ha ha' hb hb').mono ?_; rintro e w' ⟨rfl, rfl⟩))
  go_ret2
  exact ⟨rfl, ((Below.refl _ _).alloc (Nat.le_refl _) _).alloc (by simp) _⟩

theorem does_low (n : Int) (w : World) (h : n < 19) : Calls Try.prog 26 #[.int .i64 n] w fun e w' => e = .returned .nilFunc ∧ w = w' := by
  have hmf := @makeFunc_run Try.prog
  go_enter Try.func26, Try.ntmps26
  go_wp2
  go_ret
  exact ⟨rfl, rfl⟩

theorem do_low (n a b : Int) (w : World) (h : n < 19) : Calls Try.prog 12 #[.int .i64 n, .int .u32 a, .int .u32 b] w fun e w' => e = .returned (.tuple #[.int .u32 0, .bool false]) ∧ Below w.heap.size w w' := by
  have hnil := eq_nil2
  go_enter Try.func12, Try.ntmps12
  go_wp2_with (go_at_call 26; refine (does_low _ _ h).mono ?_; rintro e w' ⟨rfl, rfl⟩)
  go_ret2
  exact ⟨rfl, Below.refl _ _⟩

theorem does_high (n : Int) (w : World) (h : 45 < n) : Calls Try.prog 26 #[.int .i64 n] w fun e w' => e = .returned .nilFunc ∧ w = w' := by
  have hmf := @makeFunc_run Try.prog
  go_enter Try.func26, Try.ntmps26
  go_wp2
  go_ret
  exact ⟨rfl, rfl⟩

theorem do_high (n a b : Int) (w : World) (h : 45 < n) : Calls Try.prog 12 #[.int .i64 n, .int .u32 a, .int .u32 b] w fun e w' => e = .returned (.tuple #[.int .u32 0, .bool false]) ∧ Below w.heap.size w w' := by
  have hnil := eq_nil2
  go_enter Try.func12, Try.ntmps12
  go_wp2_with (go_at_call 26; refine (does_high _ _ h).mono ?_; rintro e w' ⟨rfl, rfl⟩)
  go_ret2
  exact ⟨rfl, Below.refl _ _⟩

end Alu
end Go.Proofs.Ytjecffjiaappoaa

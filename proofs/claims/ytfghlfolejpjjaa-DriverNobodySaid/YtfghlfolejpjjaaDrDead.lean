/- Drivers that no call made: each call answers ErrNil. -/
import Derived.Test.YtfghlfolejpjjaaLive5
namespace Go.Proofs.Ytfghlfolejpjjaa
open Go.RowKit
set_option linter.unusedVariables false
attribute [local go_sem] max2_int min2_int max_two min_two
namespace Drv
/-- No driver, or a struct of zeros. -/
def DeadD (w : World) (p : Option Addr) : Prop := p = none ∨ ∃ g, p = some ⟨g, 0, none⟩ ∧ w.heap[g]? = some (.cells #[.pointer none, .int .i64 0, .int .i64 0] 42 (0, 0))
theorem DeadD.below {w w' : World} {p : Option Addr} (h : DeadD w p) (hb : Below w.heap.size w w') : DeadD w' p := by
  rcases h with h | ⟨g, h, hg⟩
  · exact .inl h
  · exact .inr ⟨g, h, by rw [hb.block g (Array.getElem?_eq_some_iff.1 hg).1]; exact hg⟩
theorem good_d {w : World} {p : Option Addr} (h : DeadD w p) : Calls Try.prog 35 #[.pointer p] w fun e w' => e = .returned (.bool false) ∧ w = w' := by
  rcases h with rfl | ⟨g, rfl, hg⟩
  · go_enter Try.func35, Try.ntmps35
    go_wp2
    go_ret
    exact ⟨rfl, rfl⟩
  · have c1 : w.cell? ⟨g, 0, none⟩ = some (.pointer none) := by simp only [World.cell?, hg]; rfl
    go_enter Try.func35, Try.ntmps35
    go_wp2
    go_ret
    exact ⟨rfl, rfl⟩
theorem ticks_d {w : World} {p : Option Addr} (h : DeadD w p)  : Calls Try.prog 12 #[.pointer p] w fun e w' => e = .returned (.int .i64 0) ∧ w = w' := by
  go_enter Try.func12, Try.ntmps12
  go_wp2_with (go_at_call 35; refine (good_d h).mono ?_; rintro e w' ⟨rfl, rfl⟩)
  go_ret
  exact ⟨rfl, rfl⟩
theorem blocks_d {w : World} {p : Option Addr} (h : DeadD w p)  : Calls Try.prog 19 #[.pointer p] w fun e w' => e = .returned (.int .i64 0) ∧ w = w' := by
  go_enter Try.func19, Try.ntmps19
  go_wp2_with (go_at_call 35; refine (good_d h).mono ?_; rintro e w' ⟨rfl, rfl⟩)
  go_ret
  exact ⟨rfl, rfl⟩
theorem read_d {w : World} {p : Option Addr} (h : DeadD w p) (at_ n : Int) : Calls Try.prog 16 #[.pointer p, .int .i64 at_, .int .i64 n] w fun e w' => e = .returned (.tuple #[.slice none 0 0, .int .i64 1]) ∧ w = w' := by
  go_enter Try.func16, Try.ntmps16
  go_wp2_with (go_at_call 35; refine (good_d h).mono ?_; rintro e w' ⟨rfl, rfl⟩)
  go_ret2
  exact ⟨rfl, rfl⟩
theorem write_d {w : World} {p : Option Addr} (h : DeadD w p) (at_ : Int) (s : Value) : Calls Try.prog 38 #[.pointer p, .int .i64 at_, s] w fun e w' => e = .returned (.int .i64 1) ∧ w = w' := by
  go_enter Try.func38, Try.ntmps38
  go_wp2_with (go_at_call 35; refine (good_d h).mono ?_; rintro e w' ⟨rfl, rfl⟩)
  go_ret
  exact ⟨rfl, rfl⟩
theorem DeadD.one {w : World} {p : Option Addr} (h : DeadD w p) (x : Obj) : DeadD (w.alloc x) p := h.below ((Below.refl _ w).alloc (Nat.le_refl _) _)
theorem program_d {w : World} {p : Option Addr} (h : DeadD w p) (at_ : Int) (s : Value) : Calls Try.prog 11 #[.pointer p, .int .i64 at_, s] w fun e w' => e = .returned (.int .i64 1) ∧ Below w.heap.size w w' := by
  have hW := (h.one (.cells #[.pointer p] 25)).one (.cells #[.int .i64 at_] 3)
  go_enter Try.func11, Try.ntmps11
  go_wp2_with (go_at_call 35; refine (good_d hW).mono ?_; rintro e w' ⟨rfl, rfl⟩)
  go_ret
  exact ⟨rfl, ((Below.refl _ w).alloc (Nat.le_refl _) _).alloc (by simp) _⟩
set_option maxRecDepth 100000 in
theorem firstE_d {w : World} {p : Option Addr} (h : DeadD w p) {b0 b1 : Nat} {b : Int} (c0 : w.cell? ⟨b0, 0, none⟩ = some (.pointer p)) (c1 : w.cell? ⟨b1, 0, none⟩ = some (.int .i64 b)) : Calls Try.prog 40 #[.pointer (some ⟨b0, 0, none⟩), .pointer (some ⟨b1, 0, none⟩)] w fun e w' => e = .returned (.int .i64 1) ∧ Below w.heap.size w w' := by
  have h1 := h.one (.cells #[.int .u32 32, .int .u32 208] 34)
  go_enter Try.func40, Try.ntmps40
  go_wp2_with (go_at_call 38; refine (write_d h1 _ _).mono ?_; rintro x w5 ⟨rfl, rfl⟩)
  go_ret
  exact ⟨rfl, (Below.refl _ w).alloc (Nat.le_refl _) _⟩
set_option maxRecDepth 100000 in
theorem allE_d {w : World} {p : Option Addr} (h : DeadD w p) {r b0 b1 : Nat} {b : Int} (c0 : w.cell? ⟨b0, 0, none⟩ = some (.pointer p)) (c1 : w.cell? ⟨b1, 0, none⟩ = some (.int .i64 b)) (r0 : w.cell? ⟨r, 0, none⟩ = some (.func (.func 40) #[] #[.pointer (some ⟨b0, 0, none⟩), .pointer (some ⟨b1, 0, none⟩)])) :
    Calls Try.prog 36 #[.slice (some ⟨r, 0, none⟩) 2 2] w fun x w' => x = .returned (.int .i64 1) ∧ Below w.heap.size w w' := by
  go_enter Try.func36, Try.ntmps36
  go_wp2
  refine wp_loop_rounds 4 ?_
  rw [rounds_succ]
  go_wp2_with (go_at_call 40; refine (firstE_d h c0 c1).mono ?_; rintro x w1 ⟨rfl, q1⟩)
  go_ret
  exact ⟨rfl, q1⟩
set_option maxRecDepth 100000 in
theorem firstL_d {w : World} {p : Option Addr} (h : DeadD w p) {b0 b1 b2 : Nat} {b v : Int} (c0 : w.cell? ⟨b0, 0, none⟩ = some (.pointer p)) (c1 : w.cell? ⟨b1, 0, none⟩ = some (.int .i64 b)) (c2 : w.cell? ⟨b2, 0, none⟩ = some (.int .u32 v)) : Calls Try.prog 44 #[.pointer (some ⟨b0, 0, none⟩), .pointer (some ⟨b1, 0, none⟩), .pointer (some ⟨b2, 0, none⟩)] w fun e w' => e = .returned (.int .i64 1) ∧ Below w.heap.size w w' := by
  have h1 := h.one (.cells #[.int .u32 96, .int .u32 v] 34)
  go_enter Try.func44, Try.ntmps44
  go_wp2_with (go_at_call 38; refine (write_d h1 _ _).mono ?_; rintro x w5 ⟨rfl, rfl⟩)
  go_ret
  exact ⟨rfl, (Below.refl _ w).alloc (Nat.le_refl _) _⟩
set_option maxRecDepth 100000 in
theorem allL_d {w : World} {p : Option Addr} (h : DeadD w p) {r b0 b1 b2 : Nat} {b v : Int} (c0 : w.cell? ⟨b0, 0, none⟩ = some (.pointer p)) (c1 : w.cell? ⟨b1, 0, none⟩ = some (.int .i64 b)) (c2 : w.cell? ⟨b2, 0, none⟩ = some (.int .u32 v)) (r0 : w.cell? ⟨r, 0, none⟩ = some (.func (.func 44) #[] #[.pointer (some ⟨b0, 0, none⟩), .pointer (some ⟨b1, 0, none⟩), .pointer (some ⟨b2, 0, none⟩)])) :
    Calls Try.prog 36 #[.slice (some ⟨r, 0, none⟩) 2 2] w fun x w' => x = .returned (.int .i64 1) ∧ Below w.heap.size w w' := by
  go_enter Try.func36, Try.ntmps36
  go_wp2
  refine wp_loop_rounds 4 ?_
  rw [rounds_succ]
  go_wp2_with (go_at_call 44; refine (firstL_d h c0 c1 c2).mono ?_; rintro x w1 ⟨rfl, q1⟩)
  go_ret
  exact ⟨rfl, q1⟩
set_option maxHeartbeats 1000000 in
set_option maxRecDepth 100000 in
theorem erase_d {w : World} {p : Option Addr} (h : DeadD w p) (b : Int) : Calls Try.prog 13 #[.pointer p, .int .i64 b] w fun e w' => e = .returned (.int .i64 1) ∧ Below w.heap.size w w' := by
  have hmf := @makeFunc_run Try.prog
  have hW := (((h).one (.cells #[.pointer p] 25)).one (.cells #[.int .i64 b] 3)).one (.cells #[.func (.func 40) #[] #[.pointer (some ⟨w.heap.size, 0, none⟩), .pointer (some ⟨w.heap.size + 1, 0, none⟩)], .func (.func 39) #[.pointer p] #[]] 78)
  have q0 : (((w.alloc (.cells #[.pointer p] 25)).alloc (.cells #[.int .i64 b] 3)).alloc (.cells #[.func (.func 40) #[] #[.pointer (some ⟨w.heap.size, 0, none⟩), .pointer (some ⟨w.heap.size + 1, 0, none⟩)], .func (.func 39) #[.pointer p] #[]] 78)).cell? ⟨w.heap.size, 0, none⟩ = some (.pointer p) := by go_simp
  have q1 : (((w.alloc (.cells #[.pointer p] 25)).alloc (.cells #[.int .i64 b] 3)).alloc (.cells #[.func (.func 40) #[] #[.pointer (some ⟨w.heap.size, 0, none⟩), .pointer (some ⟨w.heap.size + 1, 0, none⟩)], .func (.func 39) #[.pointer p] #[]] 78)).cell? ⟨w.heap.size + 1, 0, none⟩ = some (.int .i64 b) := by go_simp
  have r0 : (((w.alloc (.cells #[.pointer p] 25)).alloc (.cells #[.int .i64 b] 3)).alloc (.cells #[.func (.func 40) #[] #[.pointer (some ⟨w.heap.size, 0, none⟩), .pointer (some ⟨w.heap.size + 1, 0, none⟩)], .func (.func 39) #[.pointer p] #[]] 78)).cell? ⟨w.heap.size + 1 + 1, 0, none⟩ = some (.func (.func 40) #[] #[.pointer (some ⟨w.heap.size, 0, none⟩), .pointer (some ⟨w.heap.size + 1, 0, none⟩)]) := by go_simp
  go_enter Try.func13, Try.ntmps13
  go_wp2_with (go_at_call 36; refine (allE_d hW q0 q1 r0).mono ?_; rintro x w5 ⟨rfl, p5⟩; clear hW)
  go_ret
  have hb : Below w.heap.size w (((w.alloc (.cells #[.pointer p] 25)).alloc (.cells #[.int .i64 b] 3)).alloc (.cells #[.func (.func 40) #[] #[.pointer (some ⟨w.heap.size, 0, none⟩), .pointer (some ⟨w.heap.size + 1, 0, none⟩)], .func (.func 39) #[.pointer p] #[]] 78)) := ((((Below.refl _ w).alloc (Nat.le_refl _) _).alloc (by simp; try omega) _).alloc (by simp; try omega) _)
  exact ⟨rfl, Below.then hb p5⟩
set_option maxHeartbeats 1000000 in
set_option maxRecDepth 100000 in
theorem lock_d {w : World} {p : Option Addr} (h : DeadD w p) (b : Int) : Calls Try.prog 18 #[.pointer p, .int .i64 b, .bool true] w fun e w' => e = .returned (.int .i64 1) ∧ Below w.heap.size w w' := by
  have hmf := @makeFunc_run Try.prog
  have hW := ((((h).one (.cells #[.pointer p] 25)).one (.cells #[.int .i64 b] 3)).one (.cells #[.int .u32 1] 34)).one (.cells #[.func (.func 44) #[] #[.pointer (some ⟨w.heap.size, 0, none⟩), .pointer (some ⟨w.heap.size + 1, 0, none⟩), .pointer (some ⟨w.heap.size + 1 + 1, 0, none⟩)], .func (.func 45) #[.pointer p] #[]] 78)
  have q0 : ((((w.alloc (.cells #[.pointer p] 25)).alloc (.cells #[.int .i64 b] 3)).alloc (.cells #[.int .u32 1] 34)).alloc (.cells #[.func (.func 44) #[] #[.pointer (some ⟨w.heap.size, 0, none⟩), .pointer (some ⟨w.heap.size + 1, 0, none⟩), .pointer (some ⟨w.heap.size + 1 + 1, 0, none⟩)], .func (.func 45) #[.pointer p] #[]] 78)).cell? ⟨w.heap.size, 0, none⟩ = some (.pointer p) := by go_simp
  have q1 : ((((w.alloc (.cells #[.pointer p] 25)).alloc (.cells #[.int .i64 b] 3)).alloc (.cells #[.int .u32 1] 34)).alloc (.cells #[.func (.func 44) #[] #[.pointer (some ⟨w.heap.size, 0, none⟩), .pointer (some ⟨w.heap.size + 1, 0, none⟩), .pointer (some ⟨w.heap.size + 1 + 1, 0, none⟩)], .func (.func 45) #[.pointer p] #[]] 78)).cell? ⟨w.heap.size + 1, 0, none⟩ = some (.int .i64 b) := by go_simp
  have q2 : ((((w.alloc (.cells #[.pointer p] 25)).alloc (.cells #[.int .i64 b] 3)).alloc (.cells #[.int .u32 1] 34)).alloc (.cells #[.func (.func 44) #[] #[.pointer (some ⟨w.heap.size, 0, none⟩), .pointer (some ⟨w.heap.size + 1, 0, none⟩), .pointer (some ⟨w.heap.size + 1 + 1, 0, none⟩)], .func (.func 45) #[.pointer p] #[]] 78)).cell? ⟨w.heap.size + 1 + 1, 0, none⟩ = some (.int .u32 1) := by go_simp
  have r0 : ((((w.alloc (.cells #[.pointer p] 25)).alloc (.cells #[.int .i64 b] 3)).alloc (.cells #[.int .u32 1] 34)).alloc (.cells #[.func (.func 44) #[] #[.pointer (some ⟨w.heap.size, 0, none⟩), .pointer (some ⟨w.heap.size + 1, 0, none⟩), .pointer (some ⟨w.heap.size + 1 + 1, 0, none⟩)], .func (.func 45) #[.pointer p] #[]] 78)).cell? ⟨w.heap.size + 1 + 1 + 1, 0, none⟩ = some (.func (.func 44) #[] #[.pointer (some ⟨w.heap.size, 0, none⟩), .pointer (some ⟨w.heap.size + 1, 0, none⟩), .pointer (some ⟨w.heap.size + 1 + 1, 0, none⟩)]) := by go_simp
  go_enter Try.func18, Try.ntmps18
  go_wp2_with (go_at_call 36; refine (allL_d hW q0 q1 q2 r0).mono ?_; rintro x w5 ⟨rfl, p5⟩; clear hW)
  go_ret
  have hb : Below w.heap.size w ((((w.alloc (.cells #[.pointer p] 25)).alloc (.cells #[.int .i64 b] 3)).alloc (.cells #[.int .u32 1] 34)).alloc (.cells #[.func (.func 44) #[] #[.pointer (some ⟨w.heap.size, 0, none⟩), .pointer (some ⟨w.heap.size + 1, 0, none⟩), .pointer (some ⟨w.heap.size + 1 + 1, 0, none⟩)], .func (.func 45) #[.pointer p] #[]] 78)) := (((((Below.refl _ w).alloc (Nat.le_refl _) _).alloc (by simp; try omega) _).alloc (by simp; try omega) _).alloc (by simp; try omega) _)
  exact ⟨rfl, Below.then hb p5⟩
theorem new_d {w : World} (p : Option Addr) (n : Int) (h : p = none ∨ n < 1 ∨ 64 < n) : Calls Try.prog 21 #[.pointer p, .int .i64 n] w fun e w' => e = .returned (.pointer none) ∧ w = w' := by
  rcases h with rfl | h | h
  · go_enter Try.func21, Try.ntmps21
    go_wp2
    go_ret
    exact ⟨rfl, rfl⟩
  · cases p with
    | none =>
      go_enter Try.func21, Try.ntmps21
      go_wp2
      go_ret
      exact ⟨rfl, rfl⟩
    | some p =>
      go_enter Try.func21, Try.ntmps21
      go_wp2
      go_ret
      exact ⟨rfl, rfl⟩
  · have h1 : 1 ≤ n := by omega
    cases p with
    | none =>
      go_enter Try.func21, Try.ntmps21
      go_wp2
      go_ret
      exact ⟨rfl, rfl⟩
    | some p =>
      go_enter Try.func21, Try.ntmps21
      go_wp2
      go_ret
      exact ⟨rfl, rfl⟩
end Drv
end Go.Proofs.Ytfghlfolejpjjaa

/- Contracts of package driver (8): Erase, Lock. -/
import Derived.Test.YtfghlfolejpjjaaDrv7
import Derived.Laws.EntriesVeiled
import Derived.Test.YtfghlfolejpjjaaArgs
namespace Go.Proofs.Ytfghlfolejpjjaa
open Go.RowKit
set_option linter.unusedVariables false
attribute [local go_sem] max2_int min2_int max_two min_two
namespace Drv
section
variable {S : Nat → Prop} {w0 w w' : World} {dd gf g bw be : Nat} {blocks ticks : Int} {s s' : Cf.Fl}
theorem Post.back {W w' : World} {t2 : Int} {s2 : Cf.Fl} (h : DrvAt S w0 w dd gf g bw be blocks ticks s) (K : Keep (Mine S dd) w W) (p : Post S w0 W dd gf g bw be blocks t2 s2 w') : Post S w0 w dd gf g bw be blocks t2 s2 w' :=
  ⟨h.lift' p.1 (K.trans p.2).size (fun k hk => hk.elim .inl (fun e => .inr ⟨Nat.le_trans K.size e.1, e.2⟩)), K.trans p.2⟩
set_option maxHeartbeats 1000000 in
set_option maxRecDepth 100000 in
theorem erase_c (h : DrvAt S w0 w dd gf g bw be blocks ticks s) (hc : Cf.Calm s) (t0 : 0 ≤ ticks) (t1 : ticks ≤ 1000000000) {b : Int} (ha : -100000000000000 ≤ b) (ha' : b ≤ 100000000000000) :
    Calls Try.prog 13 #[.pointer (some ⟨dd, 0, none⟩), .int .i64 b] w fun x w' => x = .returned (.int .i64 (Cf.ew s b).1) ∧ Post S w0 w dd gf g bw be blocks (ticks + (Cf.ew s b).2.1) (Cf.ew s b).2.2 w' := by
  have hmf := @makeFunc_run Try.prog
  have hW := (((h.then ((Below.refl _ _).alloc (Nat.le_refl _) (.cells #[.pointer (some ⟨dd, 0, none⟩)] 25))).then ((Below.refl _ _).alloc (Nat.le_refl _) (.cells #[.int .i64 b] 3))).then ((Below.refl _ _).alloc (Nat.le_refl _) (.cells #[.func (.func 40) #[] #[.pointer (some ⟨w.heap.size, 0, none⟩), .pointer (some ⟨w.heap.size + 1, 0, none⟩)], .func (.func 39) #[.pointer (some ⟨dd, 0, none⟩)] #[]] 78)))
  have KW := ((((Keep.refl (Mine S dd) w).alloc (.cells #[.pointer (some ⟨dd, 0, none⟩)] 25)).alloc (.cells #[.int .i64 b] 3)).alloc (.cells #[.func (.func 40) #[] #[.pointer (some ⟨w.heap.size, 0, none⟩), .pointer (some ⟨w.heap.size + 1, 0, none⟩)], .func (.func 39) #[.pointer (some ⟨dd, 0, none⟩)] #[]] 78))
  have q0 : (((w.alloc (.cells #[.pointer (some ⟨dd, 0, none⟩)] 25)).alloc (.cells #[.int .i64 b] 3)).alloc (.cells #[.func (.func 40) #[] #[.pointer (some ⟨w.heap.size, 0, none⟩), .pointer (some ⟨w.heap.size + 1, 0, none⟩)], .func (.func 39) #[.pointer (some ⟨dd, 0, none⟩)] #[]] 78)).cell? ⟨w.heap.size, 0, none⟩ = some (.pointer (some ⟨dd, 0, none⟩)) := by go_simp
  have q1 : (((w.alloc (.cells #[.pointer (some ⟨dd, 0, none⟩)] 25)).alloc (.cells #[.int .i64 b] 3)).alloc (.cells #[.func (.func 40) #[] #[.pointer (some ⟨w.heap.size, 0, none⟩), .pointer (some ⟨w.heap.size + 1, 0, none⟩)], .func (.func 39) #[.pointer (some ⟨dd, 0, none⟩)] #[]] 78)).cell? ⟨w.heap.size + 1, 0, none⟩ = some (.int .i64 b) := by go_simp
  have r0 : (((w.alloc (.cells #[.pointer (some ⟨dd, 0, none⟩)] 25)).alloc (.cells #[.int .i64 b] 3)).alloc (.cells #[.func (.func 40) #[] #[.pointer (some ⟨w.heap.size, 0, none⟩), .pointer (some ⟨w.heap.size + 1, 0, none⟩)], .func (.func 39) #[.pointer (some ⟨dd, 0, none⟩)] #[]] 78)).cell? ⟨w.heap.size + 1 + 1, 0, none⟩ = some (.func (.func 40) #[] #[.pointer (some ⟨w.heap.size, 0, none⟩), .pointer (some ⟨w.heap.size + 1, 0, none⟩)]) := by go_simp
  have r1 : (((w.alloc (.cells #[.pointer (some ⟨dd, 0, none⟩)] 25)).alloc (.cells #[.int .i64 b] 3)).alloc (.cells #[.func (.func 40) #[] #[.pointer (some ⟨w.heap.size, 0, none⟩), .pointer (some ⟨w.heap.size + 1, 0, none⟩)], .func (.func 39) #[.pointer (some ⟨dd, 0, none⟩)] #[]] 78)).cell? ⟨w.heap.size + 1 + 1, 1, none⟩ = some (.func (.func 39) #[.pointer (some ⟨dd, 0, none⟩)] #[]) := by go_simp
  have nr : ¬ Mine S dd (w.heap.size + 1 + 1) := fresh_not h (by omega)
  go_enter Try.func13, Try.ntmps13
  go_wp2_with (go_at_call 36; refine (eras_c hW hc t0 t1 q0 q1 ha ha' nr r0 r1).mono ?_; rintro x w5 ⟨rfl, p⟩; clear hW)
  go_ret
  exact ⟨rfl, Post.back h KW p⟩
set_option maxHeartbeats 1000000 in
set_option maxRecDepth 100000 in
theorem lockOn (h : DrvAt S w0 w dd gf g bw be blocks ticks s) (hc : Cf.Calm s) {b : Int} (ha : -100000000000000 ≤ b) (ha' : b ≤ 100000000000000) :
    Calls Try.prog 18 #[.pointer (some ⟨dd, 0, none⟩), .int .i64 b, .bool true] w fun x w' => x = .returned (.int .i64 (Cf.lw s b true).1) ∧ Post S w0 w dd gf g bw be blocks ticks (Cf.lw s b true).2 w' := by
  have hmf := @makeFunc_run Try.prog
  have hW := ((((h.then ((Below.refl _ _).alloc (Nat.le_refl _) (.cells #[.pointer (some ⟨dd, 0, none⟩)] 25))).then ((Below.refl _ _).alloc (Nat.le_refl _) (.cells #[.int .i64 b] 3))).then ((Below.refl _ _).alloc (Nat.le_refl _) (.cells #[.int .u32 1] 34))).then ((Below.refl _ _).alloc (Nat.le_refl _) (.cells #[.func (.func 44) #[] #[.pointer (some ⟨w.heap.size, 0, none⟩), .pointer (some ⟨w.heap.size + 1, 0, none⟩), .pointer (some ⟨w.heap.size + 1 + 1, 0, none⟩)], .func (.func 45) #[.pointer (some ⟨dd, 0, none⟩)] #[]] 78)))
  have KW := (((((Keep.refl (Mine S dd) w).alloc (.cells #[.pointer (some ⟨dd, 0, none⟩)] 25)).alloc (.cells #[.int .i64 b] 3)).alloc (.cells #[.int .u32 1] 34)).alloc (.cells #[.func (.func 44) #[] #[.pointer (some ⟨w.heap.size, 0, none⟩), .pointer (some ⟨w.heap.size + 1, 0, none⟩), .pointer (some ⟨w.heap.size + 1 + 1, 0, none⟩)], .func (.func 45) #[.pointer (some ⟨dd, 0, none⟩)] #[]] 78))
  have q0 : ((((w.alloc (.cells #[.pointer (some ⟨dd, 0, none⟩)] 25)).alloc (.cells #[.int .i64 b] 3)).alloc (.cells #[.int .u32 1] 34)).alloc (.cells #[.func (.func 44) #[] #[.pointer (some ⟨w.heap.size, 0, none⟩), .pointer (some ⟨w.heap.size + 1, 0, none⟩), .pointer (some ⟨w.heap.size + 1 + 1, 0, none⟩)], .func (.func 45) #[.pointer (some ⟨dd, 0, none⟩)] #[]] 78)).cell? ⟨w.heap.size, 0, none⟩ = some (.pointer (some ⟨dd, 0, none⟩)) := by go_simp
  have q1 : ((((w.alloc (.cells #[.pointer (some ⟨dd, 0, none⟩)] 25)).alloc (.cells #[.int .i64 b] 3)).alloc (.cells #[.int .u32 1] 34)).alloc (.cells #[.func (.func 44) #[] #[.pointer (some ⟨w.heap.size, 0, none⟩), .pointer (some ⟨w.heap.size + 1, 0, none⟩), .pointer (some ⟨w.heap.size + 1 + 1, 0, none⟩)], .func (.func 45) #[.pointer (some ⟨dd, 0, none⟩)] #[]] 78)).cell? ⟨w.heap.size + 1, 0, none⟩ = some (.int .i64 b) := by go_simp
  have q2 : ((((w.alloc (.cells #[.pointer (some ⟨dd, 0, none⟩)] 25)).alloc (.cells #[.int .i64 b] 3)).alloc (.cells #[.int .u32 1] 34)).alloc (.cells #[.func (.func 44) #[] #[.pointer (some ⟨w.heap.size, 0, none⟩), .pointer (some ⟨w.heap.size + 1, 0, none⟩), .pointer (some ⟨w.heap.size + 1 + 1, 0, none⟩)], .func (.func 45) #[.pointer (some ⟨dd, 0, none⟩)] #[]] 78)).cell? ⟨w.heap.size + 1 + 1, 0, none⟩ = some (.int .u32 1) := by go_simp
  have r0 : ((((w.alloc (.cells #[.pointer (some ⟨dd, 0, none⟩)] 25)).alloc (.cells #[.int .i64 b] 3)).alloc (.cells #[.int .u32 1] 34)).alloc (.cells #[.func (.func 44) #[] #[.pointer (some ⟨w.heap.size, 0, none⟩), .pointer (some ⟨w.heap.size + 1, 0, none⟩), .pointer (some ⟨w.heap.size + 1 + 1, 0, none⟩)], .func (.func 45) #[.pointer (some ⟨dd, 0, none⟩)] #[]] 78)).cell? ⟨w.heap.size + 1 + 1 + 1, 0, none⟩ = some (.func (.func 44) #[] #[.pointer (some ⟨w.heap.size, 0, none⟩), .pointer (some ⟨w.heap.size + 1, 0, none⟩), .pointer (some ⟨w.heap.size + 1 + 1, 0, none⟩)]) := by go_simp
  have r1 : ((((w.alloc (.cells #[.pointer (some ⟨dd, 0, none⟩)] 25)).alloc (.cells #[.int .i64 b] 3)).alloc (.cells #[.int .u32 1] 34)).alloc (.cells #[.func (.func 44) #[] #[.pointer (some ⟨w.heap.size, 0, none⟩), .pointer (some ⟨w.heap.size + 1, 0, none⟩), .pointer (some ⟨w.heap.size + 1 + 1, 0, none⟩)], .func (.func 45) #[.pointer (some ⟨dd, 0, none⟩)] #[]] 78)).cell? ⟨w.heap.size + 1 + 1 + 1, 1, none⟩ = some (.func (.func 45) #[.pointer (some ⟨dd, 0, none⟩)] #[]) := by go_simp
  have nr : ¬ Mine S dd (w.heap.size + 1 + 1 + 1) := fresh_not h (by omega)
  go_enter Try.func18, Try.ntmps18
  go_wp2_with (go_at_call 36; refine (lock_c (on := true) hW hc rfl q0 q1 q2 ha ha' nr r0 r1).mono ?_; rintro x w5 ⟨rfl, p⟩; clear hW)
  go_ret
  exact ⟨rfl, Post.back h KW p⟩
set_option maxHeartbeats 1000000 in
set_option maxRecDepth 100000 in
theorem lockOff (h : DrvAt S w0 w dd gf g bw be blocks ticks s) (hc : Cf.Calm s) {b : Int} (ha : -100000000000000 ≤ b) (ha' : b ≤ 100000000000000) :
    Calls Try.prog 18 #[.pointer (some ⟨dd, 0, none⟩), .int .i64 b, .bool false] w fun x w' => x = .returned (.int .i64 (Cf.lw s b false).1) ∧ Post S w0 w dd gf g bw be blocks ticks (Cf.lw s b false).2 w' := by
  have hmf := @makeFunc_run Try.prog
  have hW := ((((h.then ((Below.refl _ _).alloc (Nat.le_refl _) (.cells #[.pointer (some ⟨dd, 0, none⟩)] 25))).then ((Below.refl _ _).alloc (Nat.le_refl _) (.cells #[.int .i64 b] 3))).then ((Below.refl _ _).alloc (Nat.le_refl _) (.cells #[.int .u32 208] 34))).then ((Below.refl _ _).alloc (Nat.le_refl _) (.cells #[.func (.func 44) #[] #[.pointer (some ⟨w.heap.size, 0, none⟩), .pointer (some ⟨w.heap.size + 1, 0, none⟩), .pointer (some ⟨w.heap.size + 1 + 1, 0, none⟩)], .func (.func 45) #[.pointer (some ⟨dd, 0, none⟩)] #[]] 78)))
  have KW := (((((Keep.refl (Mine S dd) w).alloc (.cells #[.pointer (some ⟨dd, 0, none⟩)] 25)).alloc (.cells #[.int .i64 b] 3)).alloc (.cells #[.int .u32 208] 34)).alloc (.cells #[.func (.func 44) #[] #[.pointer (some ⟨w.heap.size, 0, none⟩), .pointer (some ⟨w.heap.size + 1, 0, none⟩), .pointer (some ⟨w.heap.size + 1 + 1, 0, none⟩)], .func (.func 45) #[.pointer (some ⟨dd, 0, none⟩)] #[]] 78))
  have q0 : ((((w.alloc (.cells #[.pointer (some ⟨dd, 0, none⟩)] 25)).alloc (.cells #[.int .i64 b] 3)).alloc (.cells #[.int .u32 208] 34)).alloc (.cells #[.func (.func 44) #[] #[.pointer (some ⟨w.heap.size, 0, none⟩), .pointer (some ⟨w.heap.size + 1, 0, none⟩), .pointer (some ⟨w.heap.size + 1 + 1, 0, none⟩)], .func (.func 45) #[.pointer (some ⟨dd, 0, none⟩)] #[]] 78)).cell? ⟨w.heap.size, 0, none⟩ = some (.pointer (some ⟨dd, 0, none⟩)) := by go_simp
  have q1 : ((((w.alloc (.cells #[.pointer (some ⟨dd, 0, none⟩)] 25)).alloc (.cells #[.int .i64 b] 3)).alloc (.cells #[.int .u32 208] 34)).alloc (.cells #[.func (.func 44) #[] #[.pointer (some ⟨w.heap.size, 0, none⟩), .pointer (some ⟨w.heap.size + 1, 0, none⟩), .pointer (some ⟨w.heap.size + 1 + 1, 0, none⟩)], .func (.func 45) #[.pointer (some ⟨dd, 0, none⟩)] #[]] 78)).cell? ⟨w.heap.size + 1, 0, none⟩ = some (.int .i64 b) := by go_simp
  have q2 : ((((w.alloc (.cells #[.pointer (some ⟨dd, 0, none⟩)] 25)).alloc (.cells #[.int .i64 b] 3)).alloc (.cells #[.int .u32 208] 34)).alloc (.cells #[.func (.func 44) #[] #[.pointer (some ⟨w.heap.size, 0, none⟩), .pointer (some ⟨w.heap.size + 1, 0, none⟩), .pointer (some ⟨w.heap.size + 1 + 1, 0, none⟩)], .func (.func 45) #[.pointer (some ⟨dd, 0, none⟩)] #[]] 78)).cell? ⟨w.heap.size + 1 + 1, 0, none⟩ = some (.int .u32 208) := by go_simp
  have r0 : ((((w.alloc (.cells #[.pointer (some ⟨dd, 0, none⟩)] 25)).alloc (.cells #[.int .i64 b] 3)).alloc (.cells #[.int .u32 208] 34)).alloc (.cells #[.func (.func 44) #[] #[.pointer (some ⟨w.heap.size, 0, none⟩), .pointer (some ⟨w.heap.size + 1, 0, none⟩), .pointer (some ⟨w.heap.size + 1 + 1, 0, none⟩)], .func (.func 45) #[.pointer (some ⟨dd, 0, none⟩)] #[]] 78)).cell? ⟨w.heap.size + 1 + 1 + 1, 0, none⟩ = some (.func (.func 44) #[] #[.pointer (some ⟨w.heap.size, 0, none⟩), .pointer (some ⟨w.heap.size + 1, 0, none⟩), .pointer (some ⟨w.heap.size + 1 + 1, 0, none⟩)]) := by go_simp
  have r1 : ((((w.alloc (.cells #[.pointer (some ⟨dd, 0, none⟩)] 25)).alloc (.cells #[.int .i64 b] 3)).alloc (.cells #[.int .u32 208] 34)).alloc (.cells #[.func (.func 44) #[] #[.pointer (some ⟨w.heap.size, 0, none⟩), .pointer (some ⟨w.heap.size + 1, 0, none⟩), .pointer (some ⟨w.heap.size + 1 + 1, 0, none⟩)], .func (.func 45) #[.pointer (some ⟨dd, 0, none⟩)] #[]] 78)).cell? ⟨w.heap.size + 1 + 1 + 1, 1, none⟩ = some (.func (.func 45) #[.pointer (some ⟨dd, 0, none⟩)] #[]) := by go_simp
  have nr : ¬ Mine S dd (w.heap.size + 1 + 1 + 1) := fresh_not h (by omega)
  go_enter Try.func18, Try.ntmps18
  go_wp2_with (go_at_call 36; refine (lock_c (on := false) hW hc rfl q0 q1 q2 ha ha' nr r0 r1).mono ?_; rintro x w5 ⟨rfl, p⟩; clear hW)
  go_ret
  exact ⟨rfl, Post.back h KW p⟩
end
end Drv
end Go.Proofs.Ytfghlfolejpjjaa

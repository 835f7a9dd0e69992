/- Contracts of package driver (5): what is done first. -/
import Derived.Test.YtfghlfolejpjjaaDrv4
import Derived.StillTailTactics
namespace Go.Proofs.Ytfghlfolejpjjaa
open Go.RowKit
set_option linter.unusedVariables false
attribute [local go_sem] max2_int min2_int max_two min_two
namespace Drv
section
variable {S : Nat → Prop} {w0 w w' : World} {dd gf g bw be : Nat} {blocks ticks : Int} {s s' : Cf.Fl}
theorem fresh_not (h : DrvAt S w0 w dd gf g bw be blocks ticks s) {k : Nat} (hk : w.heap.size ≤ k) : ¬ Mine S dd k := fun e => e.elim (fun e => by have := h.fl.hi k e; omega) (fun e => by have := h.lt; omega)
set_option maxHeartbeats 1000000 in
set_option maxRecDepth 100000 in
theorem firstP (h : DrvAt S w0 w dd gf g bw be blocks ticks s) {b0 b1 b2 b3 : Nat} {at_ i v e : Int} (c0 : w.cell? ⟨b0, 0, none⟩ = some (.pointer (some ⟨dd, 0, none⟩))) (c1 : w.cell? ⟨b1, 0, none⟩ = some (.int .i64 at_)) (c2 : w.cell? ⟨b2, 0, none⟩ = some (.int .i64 i)) (c3 : w.cell? ⟨b3, 0, none⟩ = some (.int .u32 v))
    (hv : 0 ≤ v) (hv' : v < 4294967296) (ha : -1000000000000 ≤ at_ + i) (ha' : at_ + i ≤ 1000000000000) (q : Hid (Cf.both s (at_ + i) 64 v = (e, s'))) :
    Calls Try.prog 37 #[.pointer (some ⟨b0, 0, none⟩), .pointer (some ⟨b1, 0, none⟩), .pointer (some ⟨b2, 0, none⟩), .pointer (some ⟨b3, 0, none⟩)] w fun x w' => x = .returned (.int .i64 e) ∧ DrvAt (Sx S w w') w0 w' dd gf g bw be blocks ticks s' ∧ Keep (Mine S dd) w w' := by
  have b1' := (Below.refl _ w).alloc (Nat.le_refl _) (.cells #[.int .u32 64, .int .u32 v] 34)
  have h1 := h.then b1'
  have e5 : (w.alloc (.cells #[.int .u32 64, .int .u32 v] 34)).heap.size = w.heap.size + 1 := by simp
  have x0 := World.cell?_alloc_mark w #[.int .u32 64, .int .u32 v] 34 (0, 0) 0
  have x1 := World.cell?_alloc_mark w #[.int .u32 64, .int .u32 v] 34 (0, 0) 1
  have K0 := (Keep.refl (Mine S dd) w).alloc (.cells #[.int .u32 64, .int .u32 v] 34)
  have nr : ¬ Mine S dd w.heap.size := fresh_not h (Nat.le_refl _)
  go_enter Try.func37, Try.ntmps37
  go_wp2_with (go_at_call 38; refine (write2_c h1 (by decide) (by decide) hv hv' nr x0 x1 q).mono ?_; rintro x w5 ⟨rfl, p1, p2⟩; clear h1)
  go_ret
  exact ⟨rfl, h.lift' p1 (K0.trans p2).size (fun k hk => hk.elim .inl (fun e => .inr ⟨by omega, e.2⟩)), K0.trans p2⟩
set_option maxHeartbeats 1000000 in
set_option maxRecDepth 100000 in
theorem firstE (h : DrvAt S w0 w dd gf g bw be blocks ticks s) {b0 b1 : Nat} {b e : Int} (c0 : w.cell? ⟨b0, 0, none⟩ = some (.pointer (some ⟨dd, 0, none⟩))) (c1 : w.cell? ⟨b1, 0, none⟩ = some (.int .i64 b))
    (ha : -100000000000000 ≤ b) (ha' : b ≤ 100000000000000) (q : Hid (Cf.both s (b * 64) 32 208 = (e, s'))) :
    Calls Try.prog 40 #[.pointer (some ⟨b0, 0, none⟩), .pointer (some ⟨b1, 0, none⟩)] w fun x w' => x = .returned (.int .i64 e) ∧ DrvAt (Sx S w w') w0 w' dd gf g bw be blocks ticks s' ∧ Keep (Mine S dd) w w' := by
  have b1' := (Below.refl _ w).alloc (Nat.le_refl _) (.cells #[.int .u32 32, .int .u32 208] 34)
  have h1 := h.then b1'
  have e5 : (w.alloc (.cells #[.int .u32 32, .int .u32 208] 34)).heap.size = w.heap.size + 1 := by simp
  have x0 := World.cell?_alloc_mark w #[.int .u32 32, .int .u32 208] 34 (0, 0) 0
  have x1 := World.cell?_alloc_mark w #[.int .u32 32, .int .u32 208] 34 (0, 0) 1
  have K0 := (Keep.refl (Mine S dd) w).alloc (.cells #[.int .u32 32, .int .u32 208] 34)
  have nr : ¬ Mine S dd w.heap.size := fresh_not h (Nat.le_refl _)
  go_enter Try.func40, Try.ntmps40
  go_wp2_with (go_at_call 38; refine (write2_c h1 (by decide) (by decide) (by decide) (by decide) nr x0 x1 q).mono ?_; rintro x w5 ⟨rfl, p1, p2⟩; clear h1)
  go_ret
  exact ⟨rfl, h.lift' p1 (K0.trans p2).size (fun k hk => hk.elim .inl (fun e => .inr ⟨by omega, e.2⟩)), K0.trans p2⟩
set_option maxHeartbeats 1000000 in
set_option maxRecDepth 100000 in
theorem firstL (h : DrvAt S w0 w dd gf g bw be blocks ticks s) {b0 b1 b2 : Nat} {b v e : Int} (c0 : w.cell? ⟨b0, 0, none⟩ = some (.pointer (some ⟨dd, 0, none⟩))) (c1 : w.cell? ⟨b1, 0, none⟩ = some (.int .i64 b)) (c2 : w.cell? ⟨b2, 0, none⟩ = some (.int .u32 v))
    (hv : 0 ≤ v) (hv' : v < 4294967296) (ha : -100000000000000 ≤ b) (ha' : b ≤ 100000000000000) (q : Hid (Cf.both s (b * 64) 96 v = (e, s'))) :
    Calls Try.prog 44 #[.pointer (some ⟨b0, 0, none⟩), .pointer (some ⟨b1, 0, none⟩), .pointer (some ⟨b2, 0, none⟩)] w fun x w' => x = .returned (.int .i64 e) ∧ DrvAt (Sx S w w') w0 w' dd gf g bw be blocks ticks s' ∧ Keep (Mine S dd) w w' := by
  have b1' := (Below.refl _ w).alloc (Nat.le_refl _) (.cells #[.int .u32 96, .int .u32 v] 34)
  have h1 := h.then b1'
  have e5 : (w.alloc (.cells #[.int .u32 96, .int .u32 v] 34)).heap.size = w.heap.size + 1 := by simp
  have x0 := World.cell?_alloc_mark w #[.int .u32 96, .int .u32 v] 34 (0, 0) 0
  have x1 := World.cell?_alloc_mark w #[.int .u32 96, .int .u32 v] 34 (0, 0) 1
  have K0 := (Keep.refl (Mine S dd) w).alloc (.cells #[.int .u32 96, .int .u32 v] 34)
  have nr : ¬ Mine S dd w.heap.size := fresh_not h (Nat.le_refl _)
  go_enter Try.func44, Try.ntmps44
  go_wp2_with (go_at_call 38; refine (write2_c h1 (by decide) (by decide) hv hv' nr x0 x1 q).mono ?_; rintro x w5 ⟨rfl, p1, p2⟩; clear h1)
  go_ret
  exact ⟨rfl, h.lift' p1 (K0.trans p2).size (fun k hk => hk.elim .inl (fun e => .inr ⟨by omega, e.2⟩)), K0.trans p2⟩
end
end Drv
end Go.Proofs.Ytfghlfolejpjjaa

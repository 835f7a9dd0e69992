/- Contracts of package driver (2): errors, wait. -/
import Derived.Test.YtfghlfolejpjjaaDrv
namespace Go.Proofs.Ytfghlfolejpjjaa
open Go.RowKit
set_option linter.unusedVariables false
attribute [local go_sem] max2_int min2_int max_two min_two
namespace Drv
section
variable {S : Nat → Prop} {w0 w w' : World} {dd gf g bw be : Nat} {blocks ticks : Int} {s s' : Cf.Fl}
set_option maxRecDepth 100000 in
theorem errors_ok (h : DrvAt S w0 w dd gf g bw be blocks ticks s) (hs : Hid (Cf.status s = 128)) : Calls Try.prog 45 #[.pointer (some ⟨dd, 0, none⟩)] w fun e w' => e = .returned (.int .i64 0) ∧ w = w' := by
  obtain ⟨c0, c1, c2⟩ := h.cells
  have e1 : bits .andNot .u32 128 128 = 0 := by decide
  go_enter Try.func45, Try.ntmps45
  go_wp2_with (go_at_call 55; refine (flash_status h hs).mono ?_; rintro e w' ⟨rfl, rfl⟩)
  go_ret
  exact ⟨rfl, rfl⟩

set_option maxHeartbeats 1000000 in
set_option maxRecDepth 100000 in
theorem errors_146 (h : DrvAt S w0 w dd gf g bw be blocks ticks s) (hs : Hid (Cf.status s = 146)) (q : Hid (Cf.write s 0 80 = (0, s'))) : Calls Try.prog 45 #[.pointer (some ⟨dd, 0, none⟩)] w fun e w' => e = .returned (.int .i64 6) ∧ DrvAt (Sx S w w') w0 w' dd gf g bw be blocks ticks s' ∧ Keep (Mine S dd) w w' := by
  obtain ⟨c0, c1, c2⟩ := h.cells
  have h0 := h
  have e1 : bits .andNot .u32 146 128 = 18 := by decide
  have e2 : bits .and .u32 18 2 = 2 := by decide
  have e3 : bits .and .u32 18 32 = 0 := by decide
  have e4 : bits .and .u32 18 16 = 16 := by decide
  have b1 := (Below.refl _ w).alloc (Nat.le_refl _) (.cells #[.int .u32 80] 34)
  have h1 := h.then b1
  have cx := World.cell?_alloc_mark w #[.int .u32 80] 34 (0, 0) 0
  have K0 := (Keep.refl (Mine S dd) w).alloc (.cells #[.int .u32 80] 34)
  go_enter Try.func45, Try.ntmps45
  go_wp2_with (first | (go_at_call 55; refine (flash_status h hs).mono ?_; rintro e w' ⟨rfl, rfl⟩) | (go_at_call 38; refine (write1_c h1 (by decide) (by decide) cx q).mono ?_; rintro e w' ⟨rfl, p1, p2⟩; clear h1))
  go_ret
  have e5 : (w.alloc (.cells #[.int .u32 80] 34)).heap.size = w.heap.size + 1 := by simp
  exact ⟨rfl, h0.lift' p1 (K0.trans p2).size (fun k hk => hk.elim .inl (fun e => .inr ⟨by omega, e.2⟩)), K0.trans p2⟩

set_option maxHeartbeats 1000000 in
set_option maxRecDepth 100000 in
theorem errors_162 (h : DrvAt S w0 w dd gf g bw be blocks ticks s) (hs : Hid (Cf.status s = 162)) (q : Hid (Cf.write s 0 80 = (0, s'))) : Calls Try.prog 45 #[.pointer (some ⟨dd, 0, none⟩)] w fun e w' => e = .returned (.int .i64 6) ∧ DrvAt (Sx S w w') w0 w' dd gf g bw be blocks ticks s' ∧ Keep (Mine S dd) w w' := by
  obtain ⟨c0, c1, c2⟩ := h.cells
  have h0 := h
  have e1 : bits .andNot .u32 162 128 = 34 := by decide
  have e2 : bits .and .u32 34 2 = 2 := by decide
  have e3 : bits .and .u32 34 32 = 32 := by decide
  have e4 : bits .and .u32 34 16 = 0 := by decide
  have b1 := (Below.refl _ w).alloc (Nat.le_refl _) (.cells #[.int .u32 80] 34)
  have h1 := h.then b1
  have cx := World.cell?_alloc_mark w #[.int .u32 80] 34 (0, 0) 0
  have K0 := (Keep.refl (Mine S dd) w).alloc (.cells #[.int .u32 80] 34)
  go_enter Try.func45, Try.ntmps45
  go_wp2_with (first | (go_at_call 55; refine (flash_status h hs).mono ?_; rintro e w' ⟨rfl, rfl⟩) | (go_at_call 38; refine (write1_c h1 (by decide) (by decide) cx q).mono ?_; rintro e w' ⟨rfl, p1, p2⟩; clear h1))
  go_ret
  have e5 : (w.alloc (.cells #[.int .u32 80] 34)).heap.size = w.heap.size + 1 := by simp
  exact ⟨rfl, h0.lift' p1 (K0.trans p2).size (fun k hk => hk.elim .inl (fun e => .inr ⟨by omega, e.2⟩)), K0.trans p2⟩

set_option maxHeartbeats 1000000 in
set_option maxRecDepth 100000 in
theorem errors_160 (h : DrvAt S w0 w dd gf g bw be blocks ticks s) (hs : Hid (Cf.status s = 160)) (q : Hid (Cf.write s 0 80 = (0, s'))) : Calls Try.prog 45 #[.pointer (some ⟨dd, 0, none⟩)] w fun e w' => e = .returned (.int .i64 5) ∧ DrvAt (Sx S w w') w0 w' dd gf g bw be blocks ticks s' ∧ Keep (Mine S dd) w w' := by
  obtain ⟨c0, c1, c2⟩ := h.cells
  have h0 := h
  have e1 : bits .andNot .u32 160 128 = 32 := by decide
  have e2 : bits .and .u32 32 2 = 0 := by decide
  have e3 : bits .and .u32 32 32 = 32 := by decide
  have e4 : bits .and .u32 32 16 = 0 := by decide
  have b1 := (Below.refl _ w).alloc (Nat.le_refl _) (.cells #[.int .u32 80] 34)
  have h1 := h.then b1
  have cx := World.cell?_alloc_mark w #[.int .u32 80] 34 (0, 0) 0
  have K0 := (Keep.refl (Mine S dd) w).alloc (.cells #[.int .u32 80] 34)
  go_enter Try.func45, Try.ntmps45
  go_wp2_with (first | (go_at_call 55; refine (flash_status h hs).mono ?_; rintro e w' ⟨rfl, rfl⟩) | (go_at_call 38; refine (write1_c h1 (by decide) (by decide) cx q).mono ?_; rintro e w' ⟨rfl, p1, p2⟩; clear h1))
  go_ret
  have e5 : (w.alloc (.cells #[.int .u32 80] 34)).heap.size = w.heap.size + 1 := by simp
  exact ⟨rfl, h0.lift' p1 (K0.trans p2).size (fun k hk => hk.elim .inl (fun e => .inr ⟨by omega, e.2⟩)), K0.trans p2⟩
end
end Drv
end Go.Proofs.Ytfghlfolejpjjaa

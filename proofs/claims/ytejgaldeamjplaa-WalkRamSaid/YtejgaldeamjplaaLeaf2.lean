/- Contracts of package walk: the leaf of the second table. -/
import Derived.Test.YtejgaldeamjplaaLeaf
namespace Go.Proofs.Ytejgaldeamjplaa
open Go.RowKit
set_option linter.unusedVariables false
theorem al3_heap {w : World} {b : Nat} {o : Obj} (h : w.heap[b]? = some o) (o1 o2 o3 : Obj) : (((w.alloc o1).alloc o2).alloc o3).heap[b]? = some o := by
  have := (Array.getElem?_eq_some_iff.1 h).1
  exact (Below.heap_alloc _ o3 b (by simp; omega)).trans (al2_heap h o1 o2)
namespace Walk
section
variable {w0 w w' : World} {g r : Nat} {base : Int} {ad : Option Addr} {kap : Nat} {zs : List Int}
set_option maxHeartbeats 1000000 in
set_option maxRecDepth 100000 in
theorem leaf_e0 (h : RamAt w0 w g r base ad kap zs) (a : Wk.Ask) (ha : a.Ok) {i : Nat} (q : Hid (Wk.entry base zs (Bt.field a.satp 0 22) a.va 1 = .ok i)) (hl : Wk.isLeaf (zs.getD i 0) = false) {p : Bool} (q0 : Hid (Wk.entry base zs (Wk.frame (zs.getD i 0)) a.va 0 = .error p)) :
    Calls Try.prog 27 #[tabv g a] w fun e w' => e = gives a.access p ∧ Below w.heap.size w w' := by
  obtain ⟨f0, f1⟩ := field_small a.satp 0 22 (by decide)
  change Bt.field a.satp 0 22 < 4194304 at f1
  obtain ⟨hi, _, _, hp⟩ := Wk.entry_err q.out
  obtain ⟨z0, z1⟩ := h.z0 i
  obtain ⟨f2, f3⟩ := field_small (zs.getD i 0) 10 22 (by decide)
  change Bt.field (zs.getD i 0) 10 22 < 4194304 at f3
  obtain ⟨x, HX⟩ : ∃ x, Hid (zs.getD i 0 = x) := ⟨_, rfl⟩
  have hE1 : ∀ o1 o2, Calls Try.prog 39 #[tabv g a, .int .u32 (Bt.field a.satp 0 22), .int .i64 1] ((w.alloc o1).alloc o2) fun e w' => e = .returned (.agg #[.int .u32 (Wk.at_ (Bt.field a.satp 0 22) a.va 1), .int .u32 x, .bool true]) ∧ Below ((w.alloc o1).alloc o2).heap.size ((w.alloc o1).alloc o2) w' := fun o1 o2 => HX.out ▸ entry_1 (h.then (alloc2_below w o1 o2)) a ha f0 f1 q
  generalize Wk.at_ (Bt.field a.satp 0 22) a.va 1 = t1 at hE1
  obtain ⟨f, hf⟩ : ∃ f, Hid (Bt.field a.satp 0 22 = f) := ⟨_, rfl⟩
  rw [hf.out] at hE1
  have hE0 : ∀ W, Below w.heap.size w W → Calls Try.prog 39 #[tabv g a, .int .u32 (Wk.frame (zs.getD i 0)), .int .i64 0] W fun e w' => e = gives a.access p ∧ Below W.heap.size W w' := fun W hb => entry_0_err (h.then hb) a ha f2 f3 q0
  obtain ⟨ff, hf2⟩ : ∃ ff, Hid (Wk.frame (zs.getD i 0) = ff) := ⟨_, rfl⟩
  rw [hf2.out] at hE0
  rw [HX.out] at hl z0 z1 hf2
  have e10 := m10 z0 z1
  rw [hl] at e10
  clear f0 f1 f2 f3 q hl hp q0
  go_enter Try.func27, Try.ntmps27
  go_wp2_with (go_at_call 33; refine (Bits.field_c _ _ _ _ ha.satp0 ha.satp1).mono ?_; rintro e w' ⟨rfl, rfl⟩; rw [hf.out])
  refine wp_loop_rounds 2 ?_
  rw [rounds_succ]
  go_wp2_with (first | (go_at_call 39; refine (hE1 _ _).mono ?_; rintro e w1 ⟨rfl, b1⟩; clear hE1; obtain ⟨e0, e1, b2⟩ := alloc2_then b1; clear b1; obtain ⟨x0, x1, x2, x3, x4, x5, _⟩ := cells6 e0; have lt0 := (Array.getElem?_eq_some_iff.1 e1).1; have E0 := Lib.hid e0; have E1 := Lib.hid e1; clear e0 e1; have X0 := fun o1 o2 o3 => Lib.cell?_alloc_some o3 (Lib.cell?_alloc_some o2 (Lib.cell?_alloc_some o1 x0)); have X1 := fun o1 o2 o3 => Lib.cell?_alloc_some o3 (Lib.cell?_alloc_some o2 (Lib.cell?_alloc_some o1 x1)); have X2 := fun o1 o2 o3 => Lib.cell?_alloc_some o3 (Lib.cell?_alloc_some o2 (Lib.cell?_alloc_some o1 x2)); have X3 := fun o1 o2 o3 => Lib.cell?_alloc_some o3 (Lib.cell?_alloc_some o2 (Lib.cell?_alloc_some o1 x3)); have X4 := fun o1 o2 o3 => Lib.cell?_alloc_some o3 (Lib.cell?_alloc_some o2 (Lib.cell?_alloc_some o1 x4)); have X5 := fun o1 o2 o3 => Lib.cell?_alloc_some o3 (Lib.cell?_alloc_some o2 (Lib.cell?_alloc_some o1 x5))) | (go_at_call 40; refine (has_c _ _ _ _ _).mono ?_; rintro e w' ⟨rfl, rfl⟩) | (go_at_call 31; refine (frame_c _ _ _ _ z0 z1).mono ?_; rintro e w' ⟨rfl, rfl⟩; rw [hf2.out]))
  rw [rounds_succ]
  go_wp2_with (go_at_call 39; refine (hE0 _ (al3 b2 _ _ _)).mono ?_; rintro e w3 ⟨rfl, b3⟩; clear hE0 X0 X1 X2 X3 X4 X5 x0 x1 x2 x3 x4 x5; replace b2 := Below.then (al3 b2 _ _ _) b3)
  exact ⟨rfl, rfl, b2⟩
set_option maxHeartbeats 1000000 in
set_option maxRecDepth 100000 in
theorem leaf_0 (h : RamAt w0 w g r base ad kap zs) (a : Wk.Ask) (ha : a.Ok) {i : Nat} (q : Hid (Wk.entry base zs (Bt.field a.satp 0 22) a.va 1 = .ok i)) (hl : Wk.isLeaf (zs.getD i 0) = false) {j : Nat} (q0 : Hid (Wk.entry base zs (Wk.frame (zs.getD i 0)) a.va 0 = .ok j)) (hl0 : Wk.isLeaf (zs.getD j 0) = true) :
    Calls Try.prog 27 #[tabv g a] w fun e w' => e = .returned (.agg #[.int .u32 (base + 4 * j), .int .u32 (zs.getD j 0), .bool false]) ∧ Below w.heap.size w w' := by
  obtain ⟨f0, f1⟩ := field_small a.satp 0 22 (by decide)
  change Bt.field a.satp 0 22 < 4194304 at f1
  obtain ⟨hi, _, _, hp⟩ := Wk.entry_err q.out
  obtain ⟨z0, z1⟩ := h.z0 i
  obtain ⟨f2, f3⟩ := field_small (zs.getD i 0) 10 22 (by decide)
  change Bt.field (zs.getD i 0) 10 22 < 4194304 at f3
  obtain ⟨x, HX⟩ : ∃ x, Hid (zs.getD i 0 = x) := ⟨_, rfl⟩
  have hE1 : ∀ o1 o2, Calls Try.prog 39 #[tabv g a, .int .u32 (Bt.field a.satp 0 22), .int .i64 1] ((w.alloc o1).alloc o2) fun e w' => e = .returned (.agg #[.int .u32 (Wk.at_ (Bt.field a.satp 0 22) a.va 1), .int .u32 x, .bool true]) ∧ Below ((w.alloc o1).alloc o2).heap.size ((w.alloc o1).alloc o2) w' := fun o1 o2 => HX.out ▸ entry_1 (h.then (alloc2_below w o1 o2)) a ha f0 f1 q
  generalize Wk.at_ (Bt.field a.satp 0 22) a.va 1 = t1 at hE1
  obtain ⟨f, hf⟩ : ∃ f, Hid (Bt.field a.satp 0 22 = f) := ⟨_, rfl⟩
  rw [hf.out] at hE1
  obtain ⟨hj, _, _, hp0⟩ := Wk.entry_err q0.out
  have hx := Lib.hid (Wk.place_lt hp0).2.1
  obtain ⟨u0, u1⟩ := h.z0 j
  obtain ⟨u, HU⟩ : ∃ u, Hid (zs.getD j 0 = u) := ⟨_, rfl⟩
  have hE0 : ∀ W, Below w.heap.size w W → Calls Try.prog 39 #[tabv g a, .int .u32 (Wk.frame (zs.getD i 0)), .int .i64 0] W fun e w' => e = .returned (.agg #[.int .u32 (base + 4 * j), .int .u32 u, .bool false]) ∧ Below W.heap.size W w' := fun W hb => HU.out ▸ hx.out ▸ entry_0 (h.then hb) a ha f2 f3 q0
  rw [HU.out] at hl0 u0 u1
  have e0' := m10 u0 u1
  rw [hl0] at e0'
  clear hl0 hp0
  obtain ⟨ff, hf2⟩ : ∃ ff, Hid (Wk.frame (zs.getD i 0) = ff) := ⟨_, rfl⟩
  rw [hf2.out] at hE0
  rw [HX.out] at hl z0 z1 hf2
  have e10 := m10 z0 z1
  rw [hl] at e10
  rw [HU.out]
  clear f0 f1 f2 f3 q hl hp q0
  go_enter Try.func27, Try.ntmps27
  go_wp2_with (go_at_call 33; refine (Bits.field_c _ _ _ _ ha.satp0 ha.satp1).mono ?_; rintro e w' ⟨rfl, rfl⟩; rw [hf.out])
  refine wp_loop_rounds 2 ?_
  rw [rounds_succ]
  go_wp2_with (first | (go_at_call 39; refine (hE1 _ _).mono ?_; rintro e w1 ⟨rfl, b1⟩; clear hE1; obtain ⟨e0, e1, b2⟩ := alloc2_then b1; clear b1; obtain ⟨x0, x1, x2, x3, x4, x5, _⟩ := cells6 e0; have lt0 := (Array.getElem?_eq_some_iff.1 e1).1; have E0 := Lib.hid e0; have E1 := Lib.hid e1; clear e0 e1; have X0 := fun o1 o2 o3 => Lib.cell?_alloc_some o3 (Lib.cell?_alloc_some o2 (Lib.cell?_alloc_some o1 x0)); have X1 := fun o1 o2 o3 => Lib.cell?_alloc_some o3 (Lib.cell?_alloc_some o2 (Lib.cell?_alloc_some o1 x1)); have X2 := fun o1 o2 o3 => Lib.cell?_alloc_some o3 (Lib.cell?_alloc_some o2 (Lib.cell?_alloc_some o1 x2)); have X3 := fun o1 o2 o3 => Lib.cell?_alloc_some o3 (Lib.cell?_alloc_some o2 (Lib.cell?_alloc_some o1 x3)); have X4 := fun o1 o2 o3 => Lib.cell?_alloc_some o3 (Lib.cell?_alloc_some o2 (Lib.cell?_alloc_some o1 x4)); have X5 := fun o1 o2 o3 => Lib.cell?_alloc_some o3 (Lib.cell?_alloc_some o2 (Lib.cell?_alloc_some o1 x5))) | (go_at_call 40; refine (has_c _ _ _ _ _).mono ?_; rintro e w' ⟨rfl, rfl⟩) | (go_at_call 31; refine (frame_c _ _ _ _ z0 z1).mono ?_; rintro e w' ⟨rfl, rfl⟩; rw [hf2.out]))
  rw [rounds_succ]
  go_wp2_with (first | (go_at_call 39; refine (hE0 _ (al3 b2 _ _ _)).mono ?_; rintro e w3 ⟨rfl, b3⟩; clear hE0 X0 X1 X2 X3 X4 X5 x0 x1 x2 x3 x4 x5; have e1 := (b3.block _ (by simp; omega)).trans (al3_heap E1.out _ _ _); have e0 := (b3.block _ (by simp; omega)).trans (al3_heap E0.out _ _ _); clear E0 E1; replace b2 := Below.then (al3 b2 _ _ _) b3; obtain ⟨y0, y1, y2, y3⟩ := cells3 e1; obtain ⟨x0, x1, x2, x3, x4, x5, _⟩ := cells6 e0; have lt1 := (Array.getElem?_eq_some_iff.1 e1).1; have E1 := Lib.hid e1; clear e0 e1; have Y0 := fun o1 o2 => Lib.cell?_alloc_some o2 (Lib.cell?_alloc_some o1 y0); have Y1 := fun o1 o2 => Lib.cell?_alloc_some o2 (Lib.cell?_alloc_some o1 y1); have Y2 := fun o1 o2 => Lib.cell?_alloc_some o2 (Lib.cell?_alloc_some o1 y2); have Y3 : ∀ o1 o2 i, ((w3.alloc o1).alloc o2).frozen? ⟨w.heap.size + 1, i, none⟩ = false := (fun o1 o2 i => (frz2 lt1 o1 o2 i).trans (y3 i)); have X0 := fun o1 o2 o3 => Lib.cell?_alloc_some o3 (Lib.cell?_alloc_some o2 (Lib.cell?_alloc_some o1 x0)); have X1 := fun o1 o2 o3 => Lib.cell?_alloc_some o3 (Lib.cell?_alloc_some o2 (Lib.cell?_alloc_some o1 x1)); have X2 := fun o1 o2 o3 => Lib.cell?_alloc_some o3 (Lib.cell?_alloc_some o2 (Lib.cell?_alloc_some o1 x2)); have X3 := fun o1 o2 o3 => Lib.cell?_alloc_some o3 (Lib.cell?_alloc_some o2 (Lib.cell?_alloc_some o1 x3)); have X4 := fun o1 o2 o3 => Lib.cell?_alloc_some o3 (Lib.cell?_alloc_some o2 (Lib.cell?_alloc_some o1 x4)); have X5 := fun o1 o2 o3 => Lib.cell?_alloc_some o3 (Lib.cell?_alloc_some o2 (Lib.cell?_alloc_some o1 x5))) | (go_at_call 40; refine (has_c _ _ _ _ _).mono ?_; rintro e w' ⟨rfl, rfl⟩) | (refine bodyPost_ret (retE rfl _ _ _ _ rfl (put3 (al2_heap E1.out _ _) _ _ _) rfl) rfl ⟨rfl, put3_below (below_al (below_al b2 _) _) (by omega) _ _ _⟩))
set_option maxHeartbeats 1000000 in
set_option maxRecDepth 100000 in
theorem leaf_end (h : RamAt w0 w g r base ad kap zs) (a : Wk.Ask) (ha : a.Ok) {i : Nat} (q : Hid (Wk.entry base zs (Bt.field a.satp 0 22) a.va 1 = .ok i)) (hl : Wk.isLeaf (zs.getD i 0) = false) {j : Nat} (q0 : Hid (Wk.entry base zs (Wk.frame (zs.getD i 0)) a.va 0 = .ok j)) (hl0 : Wk.isLeaf (zs.getD j 0) = false) :
    Calls Try.prog 27 #[tabv g a] w fun e w' => e = gives a.access true ∧ Below w.heap.size w w' := by
  obtain ⟨f0, f1⟩ := field_small a.satp 0 22 (by decide)
  change Bt.field a.satp 0 22 < 4194304 at f1
  obtain ⟨hi, _, _, hp⟩ := Wk.entry_err q.out
  obtain ⟨z0, z1⟩ := h.z0 i
  obtain ⟨f2, f3⟩ := field_small (zs.getD i 0) 10 22 (by decide)
  change Bt.field (zs.getD i 0) 10 22 < 4194304 at f3
  obtain ⟨x, HX⟩ : ∃ x, Hid (zs.getD i 0 = x) := ⟨_, rfl⟩
  have hE1 : ∀ o1 o2, Calls Try.prog 39 #[tabv g a, .int .u32 (Bt.field a.satp 0 22), .int .i64 1] ((w.alloc o1).alloc o2) fun e w' => e = .returned (.agg #[.int .u32 (Wk.at_ (Bt.field a.satp 0 22) a.va 1), .int .u32 x, .bool true]) ∧ Below ((w.alloc o1).alloc o2).heap.size ((w.alloc o1).alloc o2) w' := fun o1 o2 => HX.out ▸ entry_1 (h.then (alloc2_below w o1 o2)) a ha f0 f1 q
  generalize Wk.at_ (Bt.field a.satp 0 22) a.va 1 = t1 at hE1
  obtain ⟨f, hf⟩ : ∃ f, Hid (Bt.field a.satp 0 22 = f) := ⟨_, rfl⟩
  rw [hf.out] at hE1
  obtain ⟨hj, _, _, hp0⟩ := Wk.entry_err q0.out
  have hx := Lib.hid (Wk.place_lt hp0).2.1
  obtain ⟨u0, u1⟩ := h.z0 j
  obtain ⟨u, HU⟩ : ∃ u, Hid (zs.getD j 0 = u) := ⟨_, rfl⟩
  have hE0 : ∀ W, Below w.heap.size w W → Calls Try.prog 39 #[tabv g a, .int .u32 (Wk.frame (zs.getD i 0)), .int .i64 0] W fun e w' => e = .returned (.agg #[.int .u32 (base + 4 * j), .int .u32 u, .bool false]) ∧ Below W.heap.size W w' := fun W hb => HU.out ▸ hx.out ▸ entry_0 (h.then hb) a ha f2 f3 q0
  rw [HU.out] at hl0 u0 u1
  have e0' := m10 u0 u1
  rw [hl0] at e0'
  clear hl0 hp0
  obtain ⟨ff, hf2⟩ : ∃ ff, Hid (Wk.frame (zs.getD i 0) = ff) := ⟨_, rfl⟩
  rw [hf2.out] at hE0
  rw [HX.out] at hl z0 z1 hf2
  have e10 := m10 z0 z1
  rw [hl] at e10
  clear f0 f1 f2 f3 q hl hp q0
  obtain ⟨fg, hf3⟩ : ∃ fg, Hid (Wk.frame u = fg) := ⟨_, rfl⟩
  go_enter Try.func27, Try.ntmps27
  go_wp2_with (go_at_call 33; refine (Bits.field_c _ _ _ _ ha.satp0 ha.satp1).mono ?_; rintro e w' ⟨rfl, rfl⟩; rw [hf.out])
  refine wp_loop_rounds 3 ?_
  rw [rounds_succ]
  go_wp2_with (first | (go_at_call 39; refine (hE1 _ _).mono ?_; rintro e w1 ⟨rfl, b1⟩; clear hE1; obtain ⟨e0, e1, b2⟩ := alloc2_then b1; clear b1; obtain ⟨x0, x1, x2, x3, x4, x5, _⟩ := cells6 e0; have lt0 := (Array.getElem?_eq_some_iff.1 e1).1; have E0 := Lib.hid e0; have E1 := Lib.hid e1; clear e0 e1; have X0 := fun o1 o2 o3 => Lib.cell?_alloc_some o3 (Lib.cell?_alloc_some o2 (Lib.cell?_alloc_some o1 x0)); have X1 := fun o1 o2 o3 => Lib.cell?_alloc_some o3 (Lib.cell?_alloc_some o2 (Lib.cell?_alloc_some o1 x1)); have X2 := fun o1 o2 o3 => Lib.cell?_alloc_some o3 (Lib.cell?_alloc_some o2 (Lib.cell?_alloc_some o1 x2)); have X3 := fun o1 o2 o3 => Lib.cell?_alloc_some o3 (Lib.cell?_alloc_some o2 (Lib.cell?_alloc_some o1 x3)); have X4 := fun o1 o2 o3 => Lib.cell?_alloc_some o3 (Lib.cell?_alloc_some o2 (Lib.cell?_alloc_some o1 x4)); have X5 := fun o1 o2 o3 => Lib.cell?_alloc_some o3 (Lib.cell?_alloc_some o2 (Lib.cell?_alloc_some o1 x5))) | (go_at_call 40; refine (has_c _ _ _ _ _).mono ?_; rintro e w' ⟨rfl, rfl⟩) | (go_at_call 31; refine (frame_c _ _ _ _ z0 z1).mono ?_; rintro e w' ⟨rfl, rfl⟩; rw [hf2.out]))
  rw [rounds_succ]
  go_wp2_with (first | (go_at_call 39; refine (hE0 _ (al3 b2 _ _ _)).mono ?_; rintro e w3 ⟨rfl, b3⟩; clear hE0 X0 X1 X2 X3 X4 X5 x0 x1 x2 x3 x4 x5; have e1 := (b3.block _ (by simp; omega)).trans (al3_heap E1.out _ _ _); have e0 := (b3.block _ (by simp; omega)).trans (al3_heap E0.out _ _ _); clear E0 E1; replace b2 := Below.then (al3 b2 _ _ _) b3; obtain ⟨y0, y1, y2, y3⟩ := cells3 e1; obtain ⟨x0, x1, x2, x3, x4, x5, _⟩ := cells6 e0; have lt1 := (Array.getElem?_eq_some_iff.1 e1).1; have E1 := Lib.hid e1; clear e0 e1; have Y0 := fun o1 o2 => Lib.cell?_alloc_some o2 (Lib.cell?_alloc_some o1 y0); have Y1 := fun o1 o2 => Lib.cell?_alloc_some o2 (Lib.cell?_alloc_some o1 y1); have Y2 := fun o1 o2 => Lib.cell?_alloc_some o2 (Lib.cell?_alloc_some o1 y2); have Y3 : ∀ o1 o2 i, ((w3.alloc o1).alloc o2).frozen? ⟨w.heap.size + 1, i, none⟩ = false := (fun o1 o2 i => (frz2 lt1 o1 o2 i).trans (y3 i)); have X0 := fun o1 o2 o3 => Lib.cell?_alloc_some o3 (Lib.cell?_alloc_some o2 (Lib.cell?_alloc_some o1 x0)); have X1 := fun o1 o2 o3 => Lib.cell?_alloc_some o3 (Lib.cell?_alloc_some o2 (Lib.cell?_alloc_some o1 x1)); have X2 := fun o1 o2 o3 => Lib.cell?_alloc_some o3 (Lib.cell?_alloc_some o2 (Lib.cell?_alloc_some o1 x2)); have X3 := fun o1 o2 o3 => Lib.cell?_alloc_some o3 (Lib.cell?_alloc_some o2 (Lib.cell?_alloc_some o1 x3)); have X4 := fun o1 o2 o3 => Lib.cell?_alloc_some o3 (Lib.cell?_alloc_some o2 (Lib.cell?_alloc_some o1 x4)); have X5 := fun o1 o2 o3 => Lib.cell?_alloc_some o3 (Lib.cell?_alloc_some o2 (Lib.cell?_alloc_some o1 x5))) | (go_at_call 40; refine (has_c _ _ _ _ _).mono ?_; rintro e w' ⟨rfl, rfl⟩) | (go_at_call 31; refine (frame_c _ _ _ _ u0 u1).mono ?_; rintro e w' ⟨rfl, rfl⟩; rw [hf3.out]))
  rw [rounds_succ]
  go_wp2_with (go_at_call 29; refine (give_c g a _ _ ha.acc).mono ?_; rintro e w9 ⟨rfl, b9⟩)
  refine ⟨rfl, rfl, Below.then (al3 b2 _ _ _) b9⟩
end
end Walk
end Go.Proofs.Ytejgaldeamjplaa

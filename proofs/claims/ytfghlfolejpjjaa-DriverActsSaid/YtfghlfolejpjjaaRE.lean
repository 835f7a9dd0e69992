/- The parts: Rcfi6b Rcfi7 Rcfi8 Rcfi9 Rcfi10. -/
import Derived.Test.YtfghlfolejpjjaaRD
/- The reference's flash: Read, what is asked. -/
namespace Go.Proofs.Ytfghlfolejpjjaa
open Go.RowKit
set_option linter.unusedVariables false
attribute [local go_sem] max2_int min2_int max_two min_two
namespace Rcfi
open Rfl
set_option maxHeartbeats 1000000 in
set_option maxRecDepth 100000 in
theorem read9_c {w : World} {bw kw be ke m : Nat} {F : RF} {at_ n : Int} {lk : Bool} {u : Int} (h : Rnor.RAt w bw kw be ke F.c) (he : 0 ≤ F.errs ∧ F.errs ≤ 50) (q1 : Hid (Nr.wrong F.c at_ (F.c.words.length : Int) = n)) (hn : n = 0) (hj : F.job = 0) (ham : at_ = 16) (hm : F.mode = 3) :
    Calls Try.prog 51 #[.agg (fa bw kw be ke F), .int .i64 at_] w fun x w' => x = .returned (.tuple #[.int .u32 81, .int .i64 0]) ∧ Below w.heap.size w w' := by
  subst ham
  have hb := one_box w bw kw be ke F
  have B := alloc1_below w (.cells (fa bw kw be ke F) 62)
  go_enter Try.func51, Try.ntmps51
  go_upto_region 1 with (fail)
  generalize w.alloc (.cells (fa bw kw be ke F) 62) = W at *
  go_upto_region 2 with (first | (refine load_f rfl _ rfl rfl hb ?_) | (go_at_call 65; refine (wrong_c q1).mono ?_; rintro x w1 ⟨rfl, b1⟩; replace hb := hb.below b1; replace B := Below.then B b1; clear b1))
  obtain ⟨x0, x1, x2, x3, x4, x5, x6, x7, x8, x73, x74, x75, x76, xf⟩ := hb.cells
  go_wp2
  go_ret2
  exact ⟨rfl, B.alloc B.size _⟩
set_option maxHeartbeats 1000000 in
set_option maxRecDepth 100000 in
theorem read10_c {w : World} {bw kw be ke m : Nat} {F : RF} {at_ n : Int} {lk : Bool} {u : Int} (h : Rnor.RAt w bw kw be ke F.c) (he : 0 ≤ F.errs ∧ F.errs ≤ 50) (q1 : Hid (Nr.wrong F.c at_ (F.c.words.length : Int) = n)) (hn : n = 0) (hj : F.job = 0) (ham : at_ = 17) (hm : F.mode = 3) :
    Calls Try.prog 51 #[.agg (fa bw kw be ke F), .int .i64 at_] w fun x w' => x = .returned (.tuple #[.int .u32 82, .int .i64 0]) ∧ Below w.heap.size w w' := by
  subst ham
  have hb := one_box w bw kw be ke F
  have B := alloc1_below w (.cells (fa bw kw be ke F) 62)
  go_enter Try.func51, Try.ntmps51
  go_upto_region 1 with (fail)
  generalize w.alloc (.cells (fa bw kw be ke F) 62) = W at *
  go_upto_region 2 with (first | (refine load_f rfl _ rfl rfl hb ?_) | (go_at_call 65; refine (wrong_c q1).mono ?_; rintro x w1 ⟨rfl, b1⟩; replace hb := hb.below b1; replace B := Below.then B b1; clear b1))
  obtain ⟨x0, x1, x2, x3, x4, x5, x6, x7, x8, x73, x74, x75, x76, xf⟩ := hb.cells
  go_wp2
  go_ret2
  exact ⟨rfl, B.alloc B.size _⟩
set_option maxHeartbeats 1000000 in
set_option maxRecDepth 100000 in
theorem read11_c {w : World} {bw kw be ke m : Nat} {F : RF} {at_ n : Int} {lk : Bool} {u : Int} (h : Rnor.RAt w bw kw be ke F.c) (he : 0 ≤ F.errs ∧ F.errs ≤ 50) (q1 : Hid (Nr.wrong F.c at_ (F.c.words.length : Int) = n)) (hn : n = 0) (hj : F.job = 0) (ham : at_ = 18) (hm : F.mode = 3) :
    Calls Try.prog 51 #[.agg (fa bw kw be ke F), .int .i64 at_] w fun x w' => x = .returned (.tuple #[.int .u32 89, .int .i64 0]) ∧ Below w.heap.size w w' := by
  subst ham
  have hb := one_box w bw kw be ke F
  have B := alloc1_below w (.cells (fa bw kw be ke F) 62)
  go_enter Try.func51, Try.ntmps51
  go_upto_region 1 with (fail)
  generalize w.alloc (.cells (fa bw kw be ke F) 62) = W at *
  go_upto_region 2 with (first | (refine load_f rfl _ rfl rfl hb ?_) | (go_at_call 65; refine (wrong_c q1).mono ?_; rintro x w1 ⟨rfl, b1⟩; replace hb := hb.below b1; replace B := Below.then B b1; clear b1))
  obtain ⟨x0, x1, x2, x3, x4, x5, x6, x7, x8, x73, x74, x75, x76, xf⟩ := hb.cells
  go_wp2
  go_ret2
  exact ⟨rfl, B.alloc B.size _⟩
set_option maxHeartbeats 1000000 in
set_option maxRecDepth 100000 in
theorem read12_c {w : World} {bw kw be ke m : Nat} {F : RF} {at_ n : Int} {lk : Bool} {u : Int} (h : Rnor.RAt w bw kw be ke F.c) (he : 0 ≤ F.errs ∧ F.errs ≤ 50) (q1 : Hid (Nr.wrong F.c at_ (F.c.words.length : Int) = n)) (hn : n = 0) (hj : F.job = 0) (ham : at_ = 44) (hm : F.mode = 3) :
    Calls Try.prog 51 #[.agg (fa bw kw be ke F), .int .i64 at_] w fun x w' => x = .returned (.tuple #[.int .u32 (F.c.wear.length : Int), .int .i64 0]) ∧ Below w.heap.size w w' := by
  subst ham
  have hwl : IntKind.u32.wrap (F.c.wear.length : Int) = (F.c.wear.length : Int) := by rw [IntKind.wrap_u32]; have := h.ok.most; omega
  have hwl2 : (F.c.wear.length : Int) ≤ 64 := by have := h.ok.most; omega
  have hb := one_box w bw kw be ke F
  have B := alloc1_below w (.cells (fa bw kw be ke F) 62)
  go_enter Try.func51, Try.ntmps51
  go_upto_region 1 with (fail)
  generalize w.alloc (.cells (fa bw kw be ke F) 62) = W at *
  go_upto_region 2 with (first | (refine load_f rfl _ rfl rfl hb ?_) | (go_at_call 65; refine (wrong_c q1).mono ?_; rintro x w1 ⟨rfl, b1⟩; replace hb := hb.below b1; replace B := Below.then B b1; clear b1))
  obtain ⟨x0, x1, x2, x3, x4, x5, x6, x7, x8, x73, x74, x75, x76, xf⟩ := hb.cells
  go_wp2
  go_ret2
  exact ⟨rfl, B⟩
end Rcfi
end Go.Proofs.Ytfghlfolejpjjaa

/- The reference's flash: Tick. -/
namespace Go.Proofs.Ytfghlfolejpjjaa
open Go.RowKit
set_option linter.unusedVariables false
attribute [local go_sem] max2_int min2_int max_two min_two
namespace Rfl
def done (F : RF) (c : Nr.C) : RF := { F with c := c, job := 0, at_ := 0, v := 0, left := 0 }
end Rfl
namespace Rcfi
open Rfl
set_option maxHeartbeats 1000000 in
set_option maxRecDepth 100000 in
theorem tick1_c {w : World} {bw kw be ke : Nat} {F F' : RF} {n : Int} (ho : F.c.off = true) (q : Hid (F = F')) :
    Calls Try.prog 64 #[.agg (fa bw kw be ke F), .int .i64 n] w fun x w' => x = .returned (.tuple #[.agg (fa bw kw be ke F'), .int .i64 4]) ∧ Below w.heap.size w w' := by
  have T0 := Two.start w bw kw be ke F Try.zeroCells62
  go_enter Try.func64, Try.ntmps64
  go_upto_region 1 with (fail)
  generalize (w.alloc (.cells (fa bw kw be ke F) 62)).alloc (.cells Try.zeroCells62 62) = W at *
  obtain ⟨x0, x1, x2, x3, x4, x5, x6, x7, x8, x73, x74, x75, x76, xf⟩ := T0.box.cells
  go_wp2_with (first | (refine load_f rfl _ rfl rfl T0.box ?_) | (refine store_f rfl _ _ rfl rfl rfl T0.res zero77 ?_; intro w3 hb1 hk1 hs1))
  refine bodyPost_ret (retF2 rfl _ _ (w.heap.size + 1) _ rfl rfl hb1) rfl ⟨?_, below_row T0.below hk1 (Nat.le_succ _)⟩
  first
  | done
  | (rw [← q.out]; done)
  | (rw [← q.out]; rfl)
set_option maxHeartbeats 1000000 in
set_option maxRecDepth 100000 in
theorem tick2_c {w : World} {bw kw be ke : Nat} {F F' : RF} {n : Int} (ho : F.c.off = false) (hn : n < 0) (q : Hid (F = F')) :
    Calls Try.prog 64 #[.agg (fa bw kw be ke F), .int .i64 n] w fun x w' => x = .returned (.tuple #[.agg (fa bw kw be ke F'), .int .i64 2]) ∧ Below w.heap.size w w' := by
  have T0 := Two.start w bw kw be ke F Try.zeroCells62
  go_enter Try.func64, Try.ntmps64
  go_upto_region 1 with (fail)
  generalize (w.alloc (.cells (fa bw kw be ke F) 62)).alloc (.cells Try.zeroCells62 62) = W at *
  obtain ⟨x0, x1, x2, x3, x4, x5, x6, x7, x8, x73, x74, x75, x76, xf⟩ := T0.box.cells
  go_wp2_with (first | (refine load_f rfl _ rfl rfl T0.box ?_) | (refine store_f rfl _ _ rfl rfl rfl T0.res zero77 ?_; intro w3 hb1 hk1 hs1))
  refine bodyPost_ret (retF2 rfl _ _ (w.heap.size + 1) _ rfl rfl hb1) rfl ⟨?_, below_row T0.below hk1 (Nat.le_succ _)⟩
  first
  | done
  | (rw [← q.out]; done)
  | (rw [← q.out]; rfl)
set_option maxHeartbeats 1000000 in
set_option maxRecDepth 100000 in
theorem tick3_c {w : World} {bw kw be ke : Nat} {F F' : RF} {n : Int} (ho : F.c.off = false) (hn : 0 ≤ n) (hj : F.job = 0) (q : Hid (F = F')) :
    Calls Try.prog 64 #[.agg (fa bw kw be ke F), .int .i64 n] w fun x w' => x = .returned (.tuple #[.agg (fa bw kw be ke F'), .int .i64 0]) ∧ Below w.heap.size w w' := by
  have T0 := Two.start w bw kw be ke F Try.zeroCells62
  go_enter Try.func64, Try.ntmps64
  go_upto_region 1 with (fail)
  generalize (w.alloc (.cells (fa bw kw be ke F) 62)).alloc (.cells Try.zeroCells62 62) = W at *
  obtain ⟨x0, x1, x2, x3, x4, x5, x6, x7, x8, x73, x74, x75, x76, xf⟩ := T0.box.cells
  go_wp2_with (first | (refine load_f rfl _ rfl rfl T0.box ?_) | (refine store_f rfl _ _ rfl rfl rfl T0.res zero77 ?_; intro w3 hb1 hk1 hs1))
  refine bodyPost_ret (retF2 rfl _ _ (w.heap.size + 1) _ rfl rfl hb1) rfl ⟨?_, below_row T0.below hk1 (Nat.le_succ _)⟩
  first
  | done
  | (rw [← q.out]; done)
  | (rw [← q.out]; rfl)
set_option maxHeartbeats 1000000 in
set_option maxRecDepth 100000 in
theorem tick4_c {w : World} {bw kw be ke : Nat} {F F' : RF} {n : Int} (ho : F.c.off = false) (hn : 0 ≤ n) (hj : (F.job == 0) = false) (hl : n < F.left) (hl2 : F.left ≤ 20) (q : Hid ({ F with left := F.left - n } = F')) :
    Calls Try.prog 64 #[.agg (fa bw kw be ke F), .int .i64 n] w fun x w' => x = .returned (.tuple #[.agg (fa bw kw be ke F'), .int .i64 0]) ∧ Below w.heap.size w w' := by
  have T0 := Two.start w bw kw be ke F Try.zeroCells62
  go_enter Try.func64, Try.ntmps64
  go_upto_region 1 with (fail)
  generalize (w.alloc (.cells (fa bw kw be ke F) 62)).alloc (.cells Try.zeroCells62 62) = W at *
  obtain ⟨x0, x1, x2, x3, x4, x5, x6, x7, x8, x73, x74, x75, x76, xf⟩ := T0.box.cells
  go_upto_region 9 with (fail)
  have T1 := T0.alter (T0.box.setLeft (F.left - n))
  clear x0 x1 x2 x3 x4 x5 x6 x7 x8 x73 x74 x75 x76 xf
  clear T0 hj
  generalize W.setCell ⟨w.heap.size, 76, none⟩ (.int .i64 (F.left - n)) = W5 at *
  have T0 := T1
  clear T1
  go_wp2_with (first | (refine load_f rfl _ rfl rfl T0.box ?_) | (refine store_f rfl _ _ rfl rfl rfl T0.res zero77 ?_; intro w3 hb1 hk1 hs1))
  refine bodyPost_ret (retF2 rfl _ _ (w.heap.size + 1) _ rfl rfl hb1) rfl ⟨?_, below_row T0.below hk1 (Nat.le_succ _)⟩
  first
  | done
  | (rw [← q.out]; done)
  | (rw [← q.out]; rfl)
end Rcfi
end Go.Proofs.Ytfghlfolejpjjaa

/- The reference's flash: Tick that does a job. -/
namespace Go.Proofs.Ytfghlfolejpjjaa
open Go.RowKit
set_option linter.unusedVariables false
attribute [local go_sem] max2_int min2_int max_two min_two
namespace Rcfi
open Rfl Rnor
theorem Two.chip {w W : World} {bw kw be ke a kap a2 kap2 : Nat} {F : RF} {Z : Array Value} (T : Two w W bw kw be ke F Z) (c' : Nr.C) : Two w ((((((W.setCell ⟨w.heap.size, 0, none⟩ (.slice (some ⟨a, 0, none⟩) c'.words.length kap)).setCell ⟨w.heap.size, 1, none⟩ (.slice (some ⟨a2, 0, none⟩) c'.wear.length kap2)).setCell ⟨w.heap.size, 2, none⟩ (.int .i64 c'.endure)).setCell ⟨w.heap.size, 3, none⟩ (.int .i64 c'.fuse)).setCell ⟨w.heap.size, 4, none⟩ (.int .u32 c'.pick)).setCell ⟨w.heap.size, 5, none⟩ (.bool c'.off)) a kap a2 kap2 { F with c := c' } Z :=
  ⟨T.box.setChip, (put6_away (by omega) _ _ _ _ _ _).trans T.res, put6_below T.below (Nat.le_refl _) _ _ _ _ _ _⟩
/-- Rows are not boxes. -/
theorem rat_away {w w' : World} {bw kw be ke b : Nat} {c : Nr.C} {Z : Array Value} {t : TypeId} (R : RAt w bw kw be ke c) (hb : w.heap[b]? = some (.cells Z t (0, 0))) (h1 : t ≠ 34) (h2 : t ≠ 3) (K : Keep (fun k => k = b) w w') : RAt w' bw kw be ke c := by
  refine R.keep K ?_ ?_
  · intro d
    obtain ⟨cur, ea, hc⟩ := R.words
    rw [d, hb] at ea
    simp only [Option.some.injEq, Obj.cells.injEq] at ea
    exact h1 ea.2.1
  · intro d
    obtain ⟨cur, ea, hc⟩ := R.wear
    rw [d, hb] at ea
    simp only [Option.some.injEq, Obj.cells.injEq] at ea
    exact h2 ea.2.1
theorem keep_set {w W : World} {b : Nat} (h : Keep (fun k => k = b) w W) (j : Nat) (x : Value) : Keep (fun k => k = b) w (W.setCell ⟨b, j, none⟩ x) := h.setCell (p := ⟨b, j, none⟩) (.inl rfl) x
theorem keep_six {w W : World} {b : Nat} (h : Keep (fun k => k = b) w W) (x0 x1 x2 x3 x4 x5 : Value) : Keep (fun k => k = b) w ((((((W.setCell ⟨b, 0, none⟩ x0).setCell ⟨b, 1, none⟩ x1).setCell ⟨b, 2, none⟩ x2).setCell ⟨b, 3, none⟩ x3).setCell ⟨b, 4, none⟩ x4).setCell ⟨b, 5, none⟩ x5) :=
  keep_set (keep_set (keep_set (keep_set (keep_set (keep_set h _ _) _ _) _ _) _ _) _ _) _ _
set_option maxHeartbeats 1000000 in
set_option maxRecDepth 100000 in
theorem tickE5_c {w : World} {bw kw be ke : Nat} {F F' : RF} {n e : Int} {c1 c' : Nr.C} {e1 : Int} (h : RAt w bw kw be ke F.c) (he : 0 ≤ F.errs ∧ F.errs < 4294967296) (hv : 0 ≤ F.v ∧ F.v < 4294967296) (ho : F.c.off = false) (hn : 0 ≤ n) (hl : F.left ≤ n) (qE : Hid (Nr.erases F.c F.at_ = (e1, c1))) (hj : F.job = 32) (hc : c1 = c') (h5 : e1 = 5) (q : Hid (withE (Rfl.done F c') 32 = F')) :
    Calls Try.prog 64 #[.agg (fa bw kw be ke F), .int .i64 n] w fun x w' => ∃ a kap a2 kap2, x = .returned (.tuple #[.agg (fa a kap a2 kap2 F'), .int .i64 0]) ∧ RPost w w' bw be a kap a2 kap2 c' := by
  subst hc
  have T0 := Two.start w bw kw be ke F Try.zeroCells62
  go_enter Try.func64, Try.ntmps64
  go_upto_region 1 with (fail)
  generalize (w.alloc (.cells (fa bw kw be ke F) 62)).alloc (.cells Try.zeroCells62 62) = W at *
  obtain ⟨x0, x1, x2, x3, x4, x5, x6, x7, x8, x73, x74, x75, x76, xf⟩ := T0.box.cells
  have hE := erase_x (w := W) (bw := bw) (kw := kw) (be := be) (ke := ke) (h.below T0.below) qE
  simp only [rv_eq, ho] at hE
  go_upto_region 10 with (fail)
  go_upto_region 11 with (first | (go_at_call 72; refine hE.mono ?_; rintro x w2 ⟨a1, k1, b1, l1, rfl, hp1⟩; clear hE; have T1 := T0.then hp1.below))
  have sW : w.heap.size ≤ W.heap.size := T0.below.size
  have N1 := heap_alloc_new w2 (.cells #[.slice (some ⟨a1, 0, none⟩) c1.words.length k1, .slice (some ⟨b1, 0, none⟩) c1.wear.length l1, .int .i64 c1.endure, .int .i64 c1.fuse, .int .u32 c1.pick, .bool c1.off] 58)
  have T2 := T1.then (alloc1_below w2 (.cells #[.slice (some ⟨a1, 0, none⟩) c1.words.length k1, .slice (some ⟨b1, 0, none⟩) c1.wear.length l1, .int .i64 c1.endure, .int .i64 c1.fuse, .int .u32 c1.pick, .bool c1.off] 58))
  have R2 := hp1.at_.below (alloc1_below w2 (.cells #[.slice (some ⟨a1, 0, none⟩) c1.words.length k1, .slice (some ⟨b1, 0, none⟩) c1.wear.length l1, .int .i64 c1.endure, .int .i64 c1.fuse, .int .u32 c1.pick, .bool c1.off] 58))
  have lA : a1 = bw ∨ w.heap.size ≤ a1 := hp1.la.imp_right fun d => Nat.le_trans sW d
  have lB : b1 = be ∨ w.heap.size ≤ b1 := hp1.lb.imp_right fun d => Nat.le_trans sW d
  have nq : ¬ w2.heap.size = w.heap.size := by have := T1.box.lt; omega
  have nq2 : ¬ w.heap.size = w2.heap.size := fun d => nq d.symm
  generalize hQ : w2.heap.size = Q at *
  generalize w2.alloc (.cells #[.slice (some ⟨a1, 0, none⟩) c1.words.length k1, .slice (some ⟨b1, 0, none⟩) c1.wear.length l1, .int .i64 c1.endure, .int .i64 c1.fuse, .int .u32 c1.pick, .bool c1.off] 58) = W3 at *
  clear hQ T1 T0 hp1
  clear x0 x1 x2 x3 x4 x5 x6 x7 x8 x73 x74 x75 x76 xf
  obtain ⟨x0, x1, x2, x3, x4, x5, x6, x7, x8, x73, x74, x75, x76, xf⟩ := T2.box.cells
  obtain ⟨z0, z1, z2, z3, z4, z5, zf⟩ := cells6 N1
  clear N1
  have S0 := T2.chip (a := a1) (kap := k1) (a2 := b1) (kap2 := l1) c1
  have S1 := S0.alter (S0.box.setJob 0)
  have S2 := S1.alter (S1.box.setAt 0)
  have S3 := S2.alter (S2.box.setV 0)
  have S4 := S3.alter (S3.box.setLeft 0)
  clear S0 S1 S2 S3
  go_upto_region 18 with (fail)
  have R5 := rat_away R2 T2.box (by decide) (by decide) (keep_set (keep_set (keep_set (keep_set (keep_six (Keep.refl _ W3) (.slice (some ⟨a1, 0, none⟩) c1.words.length k1) (.slice (some ⟨b1, 0, none⟩) c1.wear.length l1) (.int .i64 c1.endure) (.int .i64 c1.fuse) (.int .u32 c1.pick) (.bool c1.off)) 73 (.int .i64 0)) 74 (.int .i64 0)) 75 (.int .u32 0)) 76 (.int .i64 0))
  clear T2 x0 x1 x2 x3 x4 x5 x6 x7 x8 x73 x74 x75 x76 xf z0 z1 z2 z3 z4 z5 zf hj ho hn hl
  generalize (((((((((W3.setCell ⟨w.heap.size, 0, none⟩ (.slice (some ⟨a1, 0, none⟩) c1.words.length k1)).setCell ⟨w.heap.size, 1, none⟩ (.slice (some ⟨b1, 0, none⟩) c1.wear.length l1)).setCell ⟨w.heap.size, 2, none⟩ (.int .i64 c1.endure)).setCell ⟨w.heap.size, 3, none⟩ (.int .i64 c1.fuse)).setCell ⟨w.heap.size, 4, none⟩ (.int .u32 c1.pick)).setCell ⟨w.heap.size, 5, none⟩ (.bool c1.off)).setCell ⟨w.heap.size, 73, none⟩ (.int .i64 0)).setCell ⟨w.heap.size, 74, none⟩ (.int .i64 0)).setCell ⟨w.heap.size, 75, none⟩ (.int .u32 0)).setCell ⟨w.heap.size, 76, none⟩ (.int .i64 0) = W6 at *
  go_wp2_with (first | (refine load_f rfl _ rfl rfl S4.box ?_) | (go_at_call 71; refine (with_c (F := Rfl.done F c1) (b := 32) he (by decide) (Lib.hid rfl)).mono ?_; rintro x w8 ⟨rfl, b8⟩; replace S4 := S4.then b8; replace R5 := R5.below b8; clear b8) | (refine store_f rfl _ _ rfl rfl rfl S4.res zero77 ?_; intro w9 hb1 hk1 hs1))
  refine bodyPost_ret (retF2 rfl _ _ (w.heap.size + 1) _ rfl rfl hb1) rfl ⟨a1, k1, b1, l1, ?_, ⟨rat_away R5 S4.res (by decide) (by decide) hk1, lA, lB, below_row S4.below hk1 (Nat.le_succ _)⟩⟩
  first
  | done
  | (rw [← q.out]; done)
  | (rw [← q.out]; rfl)
set_option maxHeartbeats 1000000 in
set_option maxRecDepth 100000 in
theorem tickEn_c {w : World} {bw kw be ke : Nat} {F F' : RF} {n e : Int} {c1 c' : Nr.C} {e1 : Int} (h : RAt w bw kw be ke F.c) (he : 0 ≤ F.errs ∧ F.errs < 4294967296) (hv : 0 ≤ F.v ∧ F.v < 4294967296) (ho : F.c.off = false) (hn : 0 ≤ n) (hl : F.left ≤ n) (qE : Hid (Nr.erases F.c F.at_ = (e1, c1))) (hj : F.job = 32) (hc : c1 = c') (h5 : (e1 == 5) = false) (q : Hid (Rfl.done F c' = F')) :
    Calls Try.prog 64 #[.agg (fa bw kw be ke F), .int .i64 n] w fun x w' => ∃ a kap a2 kap2, x = .returned (.tuple #[.agg (fa a kap a2 kap2 F'), .int .i64 e1]) ∧ RPost w w' bw be a kap a2 kap2 c' := by
  subst hc
  have T0 := Two.start w bw kw be ke F Try.zeroCells62
  go_enter Try.func64, Try.ntmps64
  go_upto_region 1 with (fail)
  generalize (w.alloc (.cells (fa bw kw be ke F) 62)).alloc (.cells Try.zeroCells62 62) = W at *
  obtain ⟨x0, x1, x2, x3, x4, x5, x6, x7, x8, x73, x74, x75, x76, xf⟩ := T0.box.cells
  have hE := erase_x (w := W) (bw := bw) (kw := kw) (be := be) (ke := ke) (h.below T0.below) qE
  simp only [rv_eq, ho] at hE
  go_upto_region 10 with (fail)
  go_upto_region 11 with (first | (go_at_call 72; refine hE.mono ?_; rintro x w2 ⟨a1, k1, b1, l1, rfl, hp1⟩; clear hE; have T1 := T0.then hp1.below))
  have sW : w.heap.size ≤ W.heap.size := T0.below.size
  have N1 := heap_alloc_new w2 (.cells #[.slice (some ⟨a1, 0, none⟩) c1.words.length k1, .slice (some ⟨b1, 0, none⟩) c1.wear.length l1, .int .i64 c1.endure, .int .i64 c1.fuse, .int .u32 c1.pick, .bool c1.off] 58)
  have T2 := T1.then (alloc1_below w2 (.cells #[.slice (some ⟨a1, 0, none⟩) c1.words.length k1, .slice (some ⟨b1, 0, none⟩) c1.wear.length l1, .int .i64 c1.endure, .int .i64 c1.fuse, .int .u32 c1.pick, .bool c1.off] 58))
  have R2 := hp1.at_.below (alloc1_below w2 (.cells #[.slice (some ⟨a1, 0, none⟩) c1.words.length k1, .slice (some ⟨b1, 0, none⟩) c1.wear.length l1, .int .i64 c1.endure, .int .i64 c1.fuse, .int .u32 c1.pick, .bool c1.off] 58))
  have lA : a1 = bw ∨ w.heap.size ≤ a1 := hp1.la.imp_right fun d => Nat.le_trans sW d
  have lB : b1 = be ∨ w.heap.size ≤ b1 := hp1.lb.imp_right fun d => Nat.le_trans sW d
  have nq : ¬ w2.heap.size = w.heap.size := by have := T1.box.lt; omega
  have nq2 : ¬ w.heap.size = w2.heap.size := fun d => nq d.symm
  generalize hQ : w2.heap.size = Q at *
  generalize w2.alloc (.cells #[.slice (some ⟨a1, 0, none⟩) c1.words.length k1, .slice (some ⟨b1, 0, none⟩) c1.wear.length l1, .int .i64 c1.endure, .int .i64 c1.fuse, .int .u32 c1.pick, .bool c1.off] 58) = W3 at *
  clear hQ T1 T0 hp1
  clear x0 x1 x2 x3 x4 x5 x6 x7 x8 x73 x74 x75 x76 xf
  obtain ⟨x0, x1, x2, x3, x4, x5, x6, x7, x8, x73, x74, x75, x76, xf⟩ := T2.box.cells
  obtain ⟨z0, z1, z2, z3, z4, z5, zf⟩ := cells6 N1
  clear N1
  have S0 := T2.chip (a := a1) (kap := k1) (a2 := b1) (kap2 := l1) c1
  have S1 := S0.alter (S0.box.setJob 0)
  have S2 := S1.alter (S1.box.setAt 0)
  have S3 := S2.alter (S2.box.setV 0)
  have S4 := S3.alter (S3.box.setLeft 0)
  clear S0 S1 S2 S3
  go_upto_region 18 with (fail)
  have R5 := rat_away R2 T2.box (by decide) (by decide) (keep_set (keep_set (keep_set (keep_set (keep_six (Keep.refl _ W3) (.slice (some ⟨a1, 0, none⟩) c1.words.length k1) (.slice (some ⟨b1, 0, none⟩) c1.wear.length l1) (.int .i64 c1.endure) (.int .i64 c1.fuse) (.int .u32 c1.pick) (.bool c1.off)) 73 (.int .i64 0)) 74 (.int .i64 0)) 75 (.int .u32 0)) 76 (.int .i64 0))
  clear T2 x0 x1 x2 x3 x4 x5 x6 x7 x8 x73 x74 x75 x76 xf z0 z1 z2 z3 z4 z5 zf hj ho hn hl
  generalize (((((((((W3.setCell ⟨w.heap.size, 0, none⟩ (.slice (some ⟨a1, 0, none⟩) c1.words.length k1)).setCell ⟨w.heap.size, 1, none⟩ (.slice (some ⟨b1, 0, none⟩) c1.wear.length l1)).setCell ⟨w.heap.size, 2, none⟩ (.int .i64 c1.endure)).setCell ⟨w.heap.size, 3, none⟩ (.int .i64 c1.fuse)).setCell ⟨w.heap.size, 4, none⟩ (.int .u32 c1.pick)).setCell ⟨w.heap.size, 5, none⟩ (.bool c1.off)).setCell ⟨w.heap.size, 73, none⟩ (.int .i64 0)).setCell ⟨w.heap.size, 74, none⟩ (.int .i64 0)).setCell ⟨w.heap.size, 75, none⟩ (.int .u32 0)).setCell ⟨w.heap.size, 76, none⟩ (.int .i64 0) = W6 at *
  go_wp2_with (first | (refine load_f rfl _ rfl rfl S4.box ?_) | (refine store_f rfl _ _ rfl rfl rfl S4.res zero77 ?_; intro w9 hb1 hk1 hs1))
  refine bodyPost_ret (retF2 rfl _ _ (w.heap.size + 1) _ rfl rfl hb1) rfl ⟨a1, k1, b1, l1, ?_, ⟨rat_away R5 S4.res (by decide) (by decide) hk1, lA, lB, below_row S4.below hk1 (Nat.le_succ _)⟩⟩
  first
  | done
  | (rw [← q.out]; done)
  | (rw [← q.out]; rfl)
set_option maxHeartbeats 1000000 in
set_option maxRecDepth 100000 in
theorem tickP5_c {w : World} {bw kw be ke : Nat} {F F' : RF} {n e : Int} {c1 c' : Nr.C} {e1 : Int} (h : RAt w bw kw be ke F.c) (he : 0 ≤ F.errs ∧ F.errs < 4294967296) (hv : 0 ≤ F.v ∧ F.v < 4294967296) (ho : F.c.off = false) (hn : 0 ≤ n) (hl : F.left ≤ n) (qE : Hid (Nr.erases F.c F.at_ = (e1, c1))) (hj : F.job = 64) (qP : Hid (Nr.programs F.c F.at_ F.v = (e, c'))) (h5 : e = 5) (q : Hid (withE (Rfl.done F c') 32 = F')) :
    Calls Try.prog 64 #[.agg (fa bw kw be ke F), .int .i64 n] w fun x w' => ∃ a kap a2 kap2, x = .returned (.tuple #[.agg (fa a kap a2 kap2 F'), .int .i64 0]) ∧ RPost w w' bw be a kap a2 kap2 c' := by
  have T0 := Two.start w bw kw be ke F Try.zeroCells62
  go_enter Try.func64, Try.ntmps64
  go_upto_region 1 with (fail)
  generalize (w.alloc (.cells (fa bw kw be ke F) 62)).alloc (.cells Try.zeroCells62 62) = W at *
  obtain ⟨x0, x1, x2, x3, x4, x5, x6, x7, x8, x73, x74, x75, x76, xf⟩ := T0.box.cells
  have hE := erase_x (w := W) (bw := bw) (kw := kw) (be := be) (ke := ke) (h.below T0.below) qE
  simp only [rv_eq, ho] at hE
  go_upto_region 10 with (fail)
  go_upto_region 11 with (first | (go_at_call 72; refine hE.mono ?_; rintro x w2 ⟨a1, k1, b1, l1, rfl, hp1⟩; clear hE; have T1 := T0.then hp1.below))
  have sW : w.heap.size ≤ W.heap.size := T0.below.size
  have N1 := heap_alloc_new w2 (.cells #[.slice (some ⟨a1, 0, none⟩) c1.words.length k1, .slice (some ⟨b1, 0, none⟩) c1.wear.length l1, .int .i64 c1.endure, .int .i64 c1.fuse, .int .u32 c1.pick, .bool c1.off] 58)
  have T2 := T1.then (alloc1_below w2 (.cells #[.slice (some ⟨a1, 0, none⟩) c1.words.length k1, .slice (some ⟨b1, 0, none⟩) c1.wear.length l1, .int .i64 c1.endure, .int .i64 c1.fuse, .int .u32 c1.pick, .bool c1.off] 58))
  have l1' := T1.box.lt
  have l2' := (Array.getElem?_eq_some_iff.1 T1.res).1
  have nq : ¬ w2.heap.size = w.heap.size := by omega
  have nq2 : ¬ w.heap.size = w2.heap.size := fun d => nq d.symm
  have nq3 : ¬ w.heap.size + 1 = w2.heap.size := by omega
  have sQ : w.heap.size ≤ w2.heap.size := by omega
  clear l1' l2'
  generalize hQ : w2.heap.size = Q at *
  generalize w2.alloc (.cells #[.slice (some ⟨a1, 0, none⟩) c1.words.length k1, .slice (some ⟨b1, 0, none⟩) c1.wear.length l1, .int .i64 c1.endure, .int .i64 c1.fuse, .int .u32 c1.pick, .bool c1.off] 58) = W3 at *
  clear hQ T1 T0 hp1
  clear x0 x1 x2 x3 x4 x5 x6 x7 x8 x73 x74 x75 x76 xf
  obtain ⟨x0, x1, x2, x3, x4, x5, x6, x7, x8, x73, x74, x75, x76, xf⟩ := T2.box.cells
  obtain ⟨z0, z1, z2, z3, z4, z5, zf⟩ := cells6 N1
  have NQ := Lib.hid N1
  clear N1
  have s3 : w.heap.size ≤ W3.heap.size := T2.below.size
  have hP := program_x (w := W3) (bw := bw) (kw := kw) (be := be) (ke := ke) (h.below T2.below) hv qP
  simp only [rv_eq, ho] at hP
  go_upto_region 13 with (first | (go_at_call 73; refine hP.mono ?_; rintro x w4 ⟨a3, k3, b3, l3, rfl, hp3⟩; clear hP; have T3 := T2.then hp3.below; have NQ4 := Lib.hid ((hp3.below.block _ (Array.getElem?_eq_some_iff.1 NQ.out).1).trans NQ.out); clear z0 z1 z2 z3 z4 z5 zf; obtain ⟨z0, z1, z2, z3, z4, z5, zf⟩ := cells6 NQ4.out))
  have lA : a3 = bw ∨ w.heap.size ≤ a3 := hp3.la.imp_right fun d => Nat.le_trans s3 d
  have lB : b3 = be ∨ w.heap.size ≤ b3 := hp3.lb.imp_right fun d => Nat.le_trans s3 d
  have N5 := put6 NQ4.out (.slice (some ⟨a3, 0, none⟩) c'.words.length k3) (.slice (some ⟨b3, 0, none⟩) c'.wear.length l3) (.int .i64 c'.endure) (.int .i64 c'.fuse) (.int .u32 c'.pick) (.bool c'.off)
  have T4 : Two w ((((((w4.setCell ⟨Q, 0, none⟩ (.slice (some ⟨a3, 0, none⟩) c'.words.length k3)).setCell ⟨Q, 1, none⟩ (.slice (some ⟨b3, 0, none⟩) c'.wear.length l3)).setCell ⟨Q, 2, none⟩ (.int .i64 c'.endure)).setCell ⟨Q, 3, none⟩ (.int .i64 c'.fuse)).setCell ⟨Q, 4, none⟩ (.int .u32 c'.pick)).setCell ⟨Q, 5, none⟩ (.bool c'.off)) bw kw be ke F Try.zeroCells62 := ⟨T3.box.of (put6_away nq2 _ _ _ _ _ _), (put6_away nq3 _ _ _ _ _ _).trans T3.res, put6_below T3.below sQ _ _ _ _ _ _⟩
  have R4 := rat_away hp3.at_ NQ4.out (by decide) (by decide) (keep_six (Keep.refl _ w4) (.slice (some ⟨a3, 0, none⟩) c'.words.length k3) (.slice (some ⟨b3, 0, none⟩) c'.wear.length l3) (.int .i64 c'.endure) (.int .i64 c'.fuse) (.int .u32 c'.pick) (.bool c'.off))
  generalize ((((((w4.setCell ⟨Q, 0, none⟩ (.slice (some ⟨a3, 0, none⟩) c'.words.length k3)).setCell ⟨Q, 1, none⟩ (.slice (some ⟨b3, 0, none⟩) c'.wear.length l3)).setCell ⟨Q, 2, none⟩ (.int .i64 c'.endure)).setCell ⟨Q, 3, none⟩ (.int .i64 c'.fuse)).setCell ⟨Q, 4, none⟩ (.int .u32 c'.pick)).setCell ⟨Q, 5, none⟩ (.bool c'.off)) = W5 at *
  clear T2 T3 hp3
  have T2 := T4
  clear x0 x1 x2 x3 x4 x5 x6 x7 x8 x73 x74 x75 x76 xf z0 z1 z2 z3 z4 z5 zf T4
  obtain ⟨x0, x1, x2, x3, x4, x5, x6, x7, x8, x73, x74, x75, x76, xf⟩ := T2.box.cells
  obtain ⟨z0, z1, z2, z3, z4, z5, zf⟩ := cells6 N5
  clear N5
  have S0 := T2.chip (a := a3) (kap := k3) (a2 := b3) (kap2 := l3) c'
  have S1 := S0.alter (S0.box.setJob 0)
  have S2 := S1.alter (S1.box.setAt 0)
  have S3 := S2.alter (S2.box.setV 0)
  have S4 := S3.alter (S3.box.setLeft 0)
  clear S0 S1 S2 S3
  go_upto_region 18 with (fail)
  have R5 := rat_away R4 T2.box (by decide) (by decide) (keep_set (keep_set (keep_set (keep_set (keep_six (Keep.refl _ W5) (.slice (some ⟨a3, 0, none⟩) c'.words.length k3) (.slice (some ⟨b3, 0, none⟩) c'.wear.length l3) (.int .i64 c'.endure) (.int .i64 c'.fuse) (.int .u32 c'.pick) (.bool c'.off)) 73 (.int .i64 0)) 74 (.int .i64 0)) 75 (.int .u32 0)) 76 (.int .i64 0))
  clear T2 x0 x1 x2 x3 x4 x5 x6 x7 x8 x73 x74 x75 x76 xf z0 z1 z2 z3 z4 z5 zf hj ho hn hl
  generalize (((((((((W5.setCell ⟨w.heap.size, 0, none⟩ (.slice (some ⟨a3, 0, none⟩) c'.words.length k3)).setCell ⟨w.heap.size, 1, none⟩ (.slice (some ⟨b3, 0, none⟩) c'.wear.length l3)).setCell ⟨w.heap.size, 2, none⟩ (.int .i64 c'.endure)).setCell ⟨w.heap.size, 3, none⟩ (.int .i64 c'.fuse)).setCell ⟨w.heap.size, 4, none⟩ (.int .u32 c'.pick)).setCell ⟨w.heap.size, 5, none⟩ (.bool c'.off)).setCell ⟨w.heap.size, 73, none⟩ (.int .i64 0)).setCell ⟨w.heap.size, 74, none⟩ (.int .i64 0)).setCell ⟨w.heap.size, 75, none⟩ (.int .u32 0)).setCell ⟨w.heap.size, 76, none⟩ (.int .i64 0) = W6 at *
  go_wp2_with (first | (refine load_f rfl _ rfl rfl S4.box ?_) | (go_at_call 71; refine (with_c (F := Rfl.done F c') (b := 32) he (by decide) (Lib.hid rfl)).mono ?_; rintro x w8 ⟨rfl, b8⟩; replace S4 := S4.then b8; replace R5 := R5.below b8; clear b8) | (refine store_f rfl _ _ rfl rfl rfl S4.res zero77 ?_; intro w9 hb1 hk1 hs1))
  refine bodyPost_ret (retF2 rfl _ _ (w.heap.size + 1) _ rfl rfl hb1) rfl ⟨a3, k3, b3, l3, ?_, ⟨rat_away R5 S4.res (by decide) (by decide) hk1, lA, lB, below_row S4.below hk1 (Nat.le_succ _)⟩⟩
  first
  | done
  | (rw [← q.out]; done)
  | (rw [← q.out]; rfl)
set_option maxHeartbeats 1000000 in
set_option maxRecDepth 100000 in
theorem tickPn_c {w : World} {bw kw be ke : Nat} {F F' : RF} {n e : Int} {c1 c' : Nr.C} {e1 : Int} (h : RAt w bw kw be ke F.c) (he : 0 ≤ F.errs ∧ F.errs < 4294967296) (hv : 0 ≤ F.v ∧ F.v < 4294967296) (ho : F.c.off = false) (hn : 0 ≤ n) (hl : F.left ≤ n) (qE : Hid (Nr.erases F.c F.at_ = (e1, c1))) (hj : F.job = 64) (qP : Hid (Nr.programs F.c F.at_ F.v = (e, c'))) (h5 : (e == 5) = false) (q : Hid (Rfl.done F c' = F')) :
    Calls Try.prog 64 #[.agg (fa bw kw be ke F), .int .i64 n] w fun x w' => ∃ a kap a2 kap2, x = .returned (.tuple #[.agg (fa a kap a2 kap2 F'), .int .i64 e]) ∧ RPost w w' bw be a kap a2 kap2 c' := by
  have T0 := Two.start w bw kw be ke F Try.zeroCells62
  go_enter Try.func64, Try.ntmps64
  go_upto_region 1 with (fail)
  generalize (w.alloc (.cells (fa bw kw be ke F) 62)).alloc (.cells Try.zeroCells62 62) = W at *
  obtain ⟨x0, x1, x2, x3, x4, x5, x6, x7, x8, x73, x74, x75, x76, xf⟩ := T0.box.cells
  have hE := erase_x (w := W) (bw := bw) (kw := kw) (be := be) (ke := ke) (h.below T0.below) qE
  simp only [rv_eq, ho] at hE
  go_upto_region 10 with (fail)
  go_upto_region 11 with (first | (go_at_call 72; refine hE.mono ?_; rintro x w2 ⟨a1, k1, b1, l1, rfl, hp1⟩; clear hE; have T1 := T0.then hp1.below))
  have sW : w.heap.size ≤ W.heap.size := T0.below.size
  have N1 := heap_alloc_new w2 (.cells #[.slice (some ⟨a1, 0, none⟩) c1.words.length k1, .slice (some ⟨b1, 0, none⟩) c1.wear.length l1, .int .i64 c1.endure, .int .i64 c1.fuse, .int .u32 c1.pick, .bool c1.off] 58)
  have T2 := T1.then (alloc1_below w2 (.cells #[.slice (some ⟨a1, 0, none⟩) c1.words.length k1, .slice (some ⟨b1, 0, none⟩) c1.wear.length l1, .int .i64 c1.endure, .int .i64 c1.fuse, .int .u32 c1.pick, .bool c1.off] 58))
  have l1' := T1.box.lt
  have l2' := (Array.getElem?_eq_some_iff.1 T1.res).1
  have nq : ¬ w2.heap.size = w.heap.size := by omega
  have nq2 : ¬ w.heap.size = w2.heap.size := fun d => nq d.symm
  have nq3 : ¬ w.heap.size + 1 = w2.heap.size := by omega
  have sQ : w.heap.size ≤ w2.heap.size := by omega
  clear l1' l2'
  generalize hQ : w2.heap.size = Q at *
  generalize w2.alloc (.cells #[.slice (some ⟨a1, 0, none⟩) c1.words.length k1, .slice (some ⟨b1, 0, none⟩) c1.wear.length l1, .int .i64 c1.endure, .int .i64 c1.fuse, .int .u32 c1.pick, .bool c1.off] 58) = W3 at *
  clear hQ T1 T0 hp1
  clear x0 x1 x2 x3 x4 x5 x6 x7 x8 x73 x74 x75 x76 xf
  obtain ⟨x0, x1, x2, x3, x4, x5, x6, x7, x8, x73, x74, x75, x76, xf⟩ := T2.box.cells
  obtain ⟨z0, z1, z2, z3, z4, z5, zf⟩ := cells6 N1
  have NQ := Lib.hid N1
  clear N1
  have s3 : w.heap.size ≤ W3.heap.size := T2.below.size
  have hP := program_x (w := W3) (bw := bw) (kw := kw) (be := be) (ke := ke) (h.below T2.below) hv qP
  simp only [rv_eq, ho] at hP
  go_upto_region 13 with (first | (go_at_call 73; refine hP.mono ?_; rintro x w4 ⟨a3, k3, b3, l3, rfl, hp3⟩; clear hP; have T3 := T2.then hp3.below; have NQ4 := Lib.hid ((hp3.below.block _ (Array.getElem?_eq_some_iff.1 NQ.out).1).trans NQ.out); clear z0 z1 z2 z3 z4 z5 zf; obtain ⟨z0, z1, z2, z3, z4, z5, zf⟩ := cells6 NQ4.out))
  have lA : a3 = bw ∨ w.heap.size ≤ a3 := hp3.la.imp_right fun d => Nat.le_trans s3 d
  have lB : b3 = be ∨ w.heap.size ≤ b3 := hp3.lb.imp_right fun d => Nat.le_trans s3 d
  have N5 := put6 NQ4.out (.slice (some ⟨a3, 0, none⟩) c'.words.length k3) (.slice (some ⟨b3, 0, none⟩) c'.wear.length l3) (.int .i64 c'.endure) (.int .i64 c'.fuse) (.int .u32 c'.pick) (.bool c'.off)
  have T4 : Two w ((((((w4.setCell ⟨Q, 0, none⟩ (.slice (some ⟨a3, 0, none⟩) c'.words.length k3)).setCell ⟨Q, 1, none⟩ (.slice (some ⟨b3, 0, none⟩) c'.wear.length l3)).setCell ⟨Q, 2, none⟩ (.int .i64 c'.endure)).setCell ⟨Q, 3, none⟩ (.int .i64 c'.fuse)).setCell ⟨Q, 4, none⟩ (.int .u32 c'.pick)).setCell ⟨Q, 5, none⟩ (.bool c'.off)) bw kw be ke F Try.zeroCells62 := ⟨T3.box.of (put6_away nq2 _ _ _ _ _ _), (put6_away nq3 _ _ _ _ _ _).trans T3.res, put6_below T3.below sQ _ _ _ _ _ _⟩
  have R4 := rat_away hp3.at_ NQ4.out (by decide) (by decide) (keep_six (Keep.refl _ w4) (.slice (some ⟨a3, 0, none⟩) c'.words.length k3) (.slice (some ⟨b3, 0, none⟩) c'.wear.length l3) (.int .i64 c'.endure) (.int .i64 c'.fuse) (.int .u32 c'.pick) (.bool c'.off))
  generalize ((((((w4.setCell ⟨Q, 0, none⟩ (.slice (some ⟨a3, 0, none⟩) c'.words.length k3)).setCell ⟨Q, 1, none⟩ (.slice (some ⟨b3, 0, none⟩) c'.wear.length l3)).setCell ⟨Q, 2, none⟩ (.int .i64 c'.endure)).setCell ⟨Q, 3, none⟩ (.int .i64 c'.fuse)).setCell ⟨Q, 4, none⟩ (.int .u32 c'.pick)).setCell ⟨Q, 5, none⟩ (.bool c'.off)) = W5 at *
  clear T2 T3 hp3
  have T2 := T4
  clear x0 x1 x2 x3 x4 x5 x6 x7 x8 x73 x74 x75 x76 xf z0 z1 z2 z3 z4 z5 zf T4
  obtain ⟨x0, x1, x2, x3, x4, x5, x6, x7, x8, x73, x74, x75, x76, xf⟩ := T2.box.cells
  obtain ⟨z0, z1, z2, z3, z4, z5, zf⟩ := cells6 N5
  clear N5
  have S0 := T2.chip (a := a3) (kap := k3) (a2 := b3) (kap2 := l3) c'
  have S1 := S0.alter (S0.box.setJob 0)
  have S2 := S1.alter (S1.box.setAt 0)
  have S3 := S2.alter (S2.box.setV 0)
  have S4 := S3.alter (S3.box.setLeft 0)
  clear S0 S1 S2 S3
  go_upto_region 18 with (fail)
  have R5 := rat_away R4 T2.box (by decide) (by decide) (keep_set (keep_set (keep_set (keep_set (keep_six (Keep.refl _ W5) (.slice (some ⟨a3, 0, none⟩) c'.words.length k3) (.slice (some ⟨b3, 0, none⟩) c'.wear.length l3) (.int .i64 c'.endure) (.int .i64 c'.fuse) (.int .u32 c'.pick) (.bool c'.off)) 73 (.int .i64 0)) 74 (.int .i64 0)) 75 (.int .u32 0)) 76 (.int .i64 0))
  clear T2 x0 x1 x2 x3 x4 x5 x6 x7 x8 x73 x74 x75 x76 xf z0 z1 z2 z3 z4 z5 zf hj ho hn hl
  generalize (((((((((W5.setCell ⟨w.heap.size, 0, none⟩ (.slice (some ⟨a3, 0, none⟩) c'.words.length k3)).setCell ⟨w.heap.size, 1, none⟩ (.slice (some ⟨b3, 0, none⟩) c'.wear.length l3)).setCell ⟨w.heap.size, 2, none⟩ (.int .i64 c'.endure)).setCell ⟨w.heap.size, 3, none⟩ (.int .i64 c'.fuse)).setCell ⟨w.heap.size, 4, none⟩ (.int .u32 c'.pick)).setCell ⟨w.heap.size, 5, none⟩ (.bool c'.off)).setCell ⟨w.heap.size, 73, none⟩ (.int .i64 0)).setCell ⟨w.heap.size, 74, none⟩ (.int .i64 0)).setCell ⟨w.heap.size, 75, none⟩ (.int .u32 0)).setCell ⟨w.heap.size, 76, none⟩ (.int .i64 0) = W6 at *
  go_wp2_with (first | (refine load_f rfl _ rfl rfl S4.box ?_) | (refine store_f rfl _ _ rfl rfl rfl S4.res zero77 ?_; intro w9 hb1 hk1 hs1))
  refine bodyPost_ret (retF2 rfl _ _ (w.heap.size + 1) _ rfl rfl hb1) rfl ⟨a3, k3, b3, l3, ?_, ⟨rat_away R5 S4.res (by decide) (by decide) hk1, lA, lB, below_row S4.below hk1 (Nat.le_succ _)⟩⟩
  first
  | done
  | (rw [← q.out]; done)
  | (rw [← q.out]; rfl)
end Rcfi
end Go.Proofs.Ytfghlfolejpjjaa

/- The reference's flash against the plain one: each call's contract by an equation. -/
namespace Go.Proofs.Ytfghlfolejpjjaa
open Go.RowKit
set_option linter.unusedVariables false
set_option linter.unusedSimpArgs false
namespace Rfl
/-- Error bits that can be. -/
def Eo (e : Int) : Prop := e = 0 ∨ e = 2 ∨ e = 16 ∨ e = 18 ∨ e = 32 ∨ e = 34 ∨ e = 48 ∨ e = 50
theorem Eo.rng {e : Int} (h : Eo e) : 0 ≤ e ∧ e ≤ 50 := by unfold Eo at h; omega
theorem Eo.rng2 {e : Int} (h : Eo e) : 0 ≤ e ∧ e < 4294967296 := by unfold Eo at h; omega
theorem Eo.or {e b : Int} (h : Eo e) (hb : b = 18 ∨ b = 34 ∨ b = 48 ∨ b = 32) : Eo (bits .or .u32 e b) := by
  unfold Eo at h
  rcases h with rfl | rfl | rfl | rfl | rfl | rfl | rfl | rfl <;> rcases hb with rfl | rfl | rfl | rfl <;> (unfold Eo; decide)
theorem Eo.status {e : Int} (h : Eo e) : bits .or .u32 e 128 = e + 128 := by
  unfold Eo at h
  rcases h with rfl | rfl | rfl | rfl | rfl | rfl | rfl | rfl <;> decide
theorem job_ne (j : Cf.Jb) : jobN (some j) ≠ 0 := by
  show (if j.isp = true then (64 : Int) else 32) ≠ 0
  split <;> decide
theorem rf_status {s : Cf.Fl} (h : Eo s.errs) : (if (rf s).job = 0 then (rf s).errs + 128 else (rf s).errs) = Cf.status s := by
  unfold Cf.status
  show (if jobN s.job = 0 then s.errs + 128 else s.errs) = _
  cases hj : s.job with
  | none => rw [show jobN none = 0 from rfl, if_pos rfl]; exact (Eo.status h).symm
  | some j =>
    rw [if_neg (job_ne j)]
theorem rf_lock (s : Cf.Fl) (m : Nat) (b : Bool) : (fun j : Nat => if j = m / 64 then b else (rf s).locks j) = fun j : Nat => Cf.upd s.locks ((m : Int) / 64) b (j : Int) := by
  funext j
  unfold Cf.upd
  by_cases e : j = m / 64
  · rw [if_pos e, if_pos (by omega)]
  · rw [if_neg e, if_neg (by omega)]
    rfl
theorem lock_eq (s : Cf.Fl) (m : Nat) : (rf s).locks (m / 64) = s.locks ((m : Int) / 64) := by
  show s.locks ((m / 64 : Nat) : Int) = _
  congr 1
theorem rf_waited {s : Cf.Fl} (hj : s.job = none) (hw : s.wait = 64 ∨ s.wait = 32 ∨ s.wait = 96) (m : Nat) (v : Int) : Rfl.waited (rf s) m v = rf (Cf.waited s m v) := by
  unfold Rfl.waited Cf.waited
  rw [show (rf s).wait = s.wait from rfl, lock_eq]
  have hr : calm (rf s) = rf { s with wait := 0, mode := 1 } := rfl
  rcases hw with hw | hw | hw
  · rw [if_pos hw, if_pos hw]
    unfold Cf.prog1
    simp only
    cases s.locks ((m : Int) / 64)
    · rfl
    · rfl
  · have h64 : ¬ s.wait = 64 := by omega
    simp only [if_neg h64, if_pos hw]
    unfold Cf.eras1
    simp only
    by_cases h3 : v % 256 = 208
    · rw [if_pos h3, if_pos h3]
      cases s.locks ((m : Int) / 64)
      · simp only [Bool.false_eq_true, if_false]
        unfold rf calm
        simp only [hj]
        rfl
      · rfl
    · rw [if_neg h3, if_neg h3]
      rfl
  · have h64 : ¬ s.wait = 64 := by omega
    have h32 : ¬ s.wait = 32 := by omega
    simp only [if_neg h64, if_neg h32]
    unfold Cf.lock1
    by_cases h1 : v % 256 = 1
    · rw [if_pos h1, if_pos h1]
      unfold lockAt
      rw [show (fun j : Nat => if j = m / 64 then true else (calm (rf s)).locks j) = _ from rf_lock s m true]
      rfl
    · rw [if_neg h1, if_neg h1]
      by_cases h3 : v % 256 = 208
      · rw [if_pos h3, if_pos h3]
        unfold lockAt
        rw [show (fun j : Nat => if j = m / 64 then false else (calm (rf s)).locks j) = _ from rf_lock s m false]
        rfl
      · rw [if_neg h3, if_neg h3]
        rfl
theorem waited_facts (s : Cf.Fl) (m v : Int) : (Cf.waited s m v).c = s.c := by
  unfold Cf.waited Cf.prog1 Cf.eras1 Cf.lock1 Cf.setE
  repeat' split
  all_goals rfl
theorem command_c (s : Cf.Fl) (v : Int) : (Cf.command s v).c = s.c := by
  unfold Cf.command Cf.setE
  repeat' split
  all_goals rfl
theorem write_c (s : Cf.Fl) (a v : Int) : (Cf.write s a v).2.c = s.c := by
  unfold Cf.write
  split
  · cases s.job with
    | some j => rfl
    | none =>
      simp only
      split
      · exact command_c _ _
      · exact waited_facts _ _ _
  · rfl
theorem waited_eo {s : Cf.Fl} (h : Eo s.errs) (m v : Int) : Eo (Cf.waited s m v).errs := by
  unfold Cf.waited Cf.prog1 Cf.eras1 Cf.lock1 Cf.setE
  repeat' split
  all_goals first | exact h | exact h.or (by decide)
theorem command_eo {s : Cf.Fl} (h : Eo s.errs) (v : Int) : Eo (Cf.command s v).errs := by
  unfold Cf.command Cf.setE
  repeat' split
  all_goals first | exact h | exact h.or (by decide) | exact .inl rfl
theorem write_eo {s : Cf.Fl} (h : Eo s.errs) (a v : Int) : Eo (Cf.write s a v).2.errs := by
  unfold Cf.write
  split
  · cases s.job with
    | some j => exact h
    | none =>
      simp only
      split
      · exact command_eo h _
      · exact waited_eo h _ _
  · exact h
theorem tick_eo {s : Cf.Fl} (h : Eo s.errs) (n : Int) : Eo (Cf.tick s n).2.errs := by
  unfold Cf.tick
  split
  · split
    · exact h
    · cases s.job with
      | none => exact h
      | some j =>
        simp only
        split
        · exact h
        · split
          · exact h.or (by decide)
          · exact h
  · exact h
end Rfl
namespace Rcfi
open Rfl
theorem status_x {w : World} {bw kw be ke : Nat} {s : Cf.Fl} (h : Eo s.errs) {v : Int} (q : Hid (Cf.status s = v)) :
    Calls Try.prog 63 #[.agg (fa bw kw be ke (rf s))] w fun x w' => x = .returned (.int .u32 v) ∧ Below w.heap.size w w' :=
  status_c h.rng (Lib.hid ((rf_status h).trans q.out))
theorem reset_x {w : World} {bw kw be ke : Nat} {s s' : Cf.Fl} (q : Hid (Cf.reset s = s')) :
    Calls Try.prog 33 #[.agg (fa bw kw be ke (rf s))] w fun x w' => x = .returned (.agg (fa bw kw be ke (rf s'))) ∧ Below w.heap.size w w' := by
  rw [← q.out]
  exact reset_c
theorem write_x {w : World} {bw kw be ke : Nat} {s s' : Cf.Fl} (hc : s.c.ok) (hs : s.ok) (h : Eo s.errs) {at_ v e : Int} (hv : 0 ≤ v ∧ v < 4294967296) (q : Hid (Cf.write s at_ v = (e, s'))) :
    Calls Try.prog 62 #[.agg (fa bw kw be ke (rf s)), .int .i64 at_, .int .u32 v] w fun x w' => x = .returned (.tuple #[.agg (fa bw kw be ke (rf s')), .int .i64 e]) ∧ Below w.heap.size w w' := by
  have hl := Rnor.words_len hc
  have q' := q.out
  have he : 0 ≤ (rf s).errs ∧ (rf s).errs < 4294967296 := h.rng2
  obtain ⟨n, q1⟩ : ∃ n, Hid (Nr.wrong (rf s).c at_ ((rf s).c.words.length : Int) = n) := ⟨_, Lib.hid rfl⟩
  have q2 : Cf.wrong s at_ = n := by
    rw [← q1.out]
    show Nr.wrong s.c at_ _ = Nr.wrong s.c at_ (s.c.words.length : Int)
    rw [hl]
  unfold Cf.write at q'
  rw [q2] at q'
  by_cases hn : n = 0
  · rw [if_pos hn, Prod.mk.injEq] at q'
    obtain ⟨rfl, q3⟩ := q'
    cases hj : s.job with
    | some j =>
      rw [hj] at q3
      simp only at q3
      subst q3
      have : (rf s).job ≠ 0 := by
        show jobN s.job ≠ 0
        rw [hj]; exact job_ne j
      exact write1_c he hv q1 hn (by simpa using this) (Lib.hid rfl)
    | none =>
      rw [hj] at q3
      simp only at q3
      have hj0 : (rf s).job = 0 := by show jobN s.job = 0; rw [hj]; rfl
      by_cases hw : s.wait = 0
      · rw [if_pos hw] at q3
        have hw0 : (rf s).wait = 0 := hw
        subst q3
        by_cases h255 : v % 256 = 255
        · exact write255_c he hv q1 hn hj0 hw0 h255 (Lib.hid (by simp [Cf.command, h255, rf]))
        by_cases h112 : v % 256 = 112
        · exact write112_c he hv q1 hn hj0 hw0 h112 (Lib.hid (by simp [Cf.command, h112, rf]))
        by_cases h144 : v % 256 = 144
        · exact write144_c he hv q1 hn hj0 hw0 h144 (Lib.hid (by simp [Cf.command, h144, rf]))
        by_cases h152 : v % 256 = 152
        · exact write152_c he hv q1 hn hj0 hw0 h152 (Lib.hid (by simp [Cf.command, h152, rf]))
        by_cases h80 : v % 256 = 80
        · exact write80_c he hv q1 hn hj0 hw0 h80 (Lib.hid (by simp [Cf.command, h80, rf]))
        by_cases h64 : v % 256 = 64
        · exact write64_c he hv q1 hn hj0 hw0 h64 (Lib.hid (by simp [Cf.command, h64, rf]))
        by_cases h32 : v % 256 = 32
        · exact write32_c he hv q1 hn hj0 hw0 h32 (Lib.hid (by simp [Cf.command, h32, rf]))
        by_cases h96 : v % 256 = 96
        · exact write96_c he hv q1 hn hj0 hw0 h96 (Lib.hid (by simp [Cf.command, h96, rf]))
        exact writeX_c he hv q1 hn hj0 hw0 (by simpa using h255) (by simpa using h112) (by simpa using h144) (by simpa using h152) (by simpa using h80) (by simpa using h64) (by simpa using h32) (by simpa using h96) (Lib.hid (by simp [Cf.command, h255, h112, h144, h152, h80, h64, h32, h96, rf, withE, Cf.setE]))
      · rw [if_neg hw] at q3
        have hws : s.wait = 64 ∨ s.wait = 32 ∨ s.wait = 96 := by
          have := hs.waits
          omega
        obtain ⟨m, rfl, hm⟩ := Nr.wrong_zero hc (show Nr.wrong s.c at_ ((s.c.wear.length : Int) * 64) = 0 from q2.trans hn)
        have hm2 : m < 4096 := by have := hc.size; have := hc.most; omega
        refine write2_c he hv q1 hn hj0 (by show (s.wait != 0) = true; simpa using hw) (fun W => waited_c he hm2 hv hws (Lib.hid ?_)) (Lib.hid rfl)
        rw [rf_waited hj hws, q3]
  · rw [if_neg hn, Prod.mk.injEq] at q'
    obtain ⟨rfl, rfl⟩ := q'
    exact write0_c he hv q1 (by simpa using hn) (Lib.hid rfl)
theorem tick_x {w : World} {bw kw be ke : Nat} {s s' : Cf.Fl} (hR : Rnor.RAt w bw kw be ke s.c) (hs : s.ok) (h : Eo s.errs) {n e : Int} (q : Hid (Cf.tick s n = (e, s'))) :
    Calls Try.prog 64 #[.agg (fa bw kw be ke (rf s)), .int .i64 n] w fun x w' => ∃ a kap a2 kap2, x = .returned (.tuple #[.agg (fa a kap a2 kap2 (rf s')), .int .i64 e]) ∧ Rnor.RPost w w' bw be a kap a2 kap2 s'.c := by
  have hc := hR.ok
  have q' := q.out
  have he : 0 ≤ (rf s).errs ∧ (rf s).errs < 4294967296 := h.rng2
  unfold Cf.tick at q'
  cases ho : s.c.off with
  | true =>
    have hw : Cf.wrong s 0 = 4 := by unfold Cf.wrong Nr.wrong; rw [ho]; rfl
    rw [hw, if_neg (by decide), Prod.mk.injEq] at q'
    obtain ⟨rfl, rfl⟩ := q'
    refine (tick1_c (F := rf s) (n := n) ho (Lib.hid rfl)).mono ?_
    rintro x w' ⟨rfl, b⟩
    exact ⟨bw, kw, be, ke, rfl, Rnor.RPost.same hR b⟩
  | false =>
    have hw : Cf.wrong s 0 = 0 := by
      unfold Cf.wrong Nr.wrong
      rw [ho, if_neg (by simp), if_neg (by have := hc.some_; omega)]
    rw [if_pos hw] at q'
    by_cases hn : n < 0
    · rw [if_pos hn, Prod.mk.injEq] at q'
      obtain ⟨rfl, rfl⟩ := q'
      refine (tick2_c (F := rf s) (n := n) ho hn (Lib.hid rfl)).mono ?_
      rintro x w' ⟨rfl, b⟩
      exact ⟨bw, kw, be, ke, rfl, Rnor.RPost.same hR b⟩
    · rw [if_neg hn] at q'
      have hn' : 0 ≤ n := by omega
      cases hj : s.job with
      | none =>
        rw [hj] at q'
        simp only [Prod.mk.injEq] at q'
        obtain ⟨rfl, rfl⟩ := q'
        refine (tick3_c (F := rf s) (n := n) ho hn' (by show jobN s.job = 0; rw [hj]; rfl) (Lib.hid rfl)).mono ?_
        rintro x w' ⟨rfl, b⟩
        exact ⟨bw, kw, be, ke, rfl, Rnor.RPost.same hR b⟩
      | some j =>
        rw [hj] at q'
        simp only at q'
        have jo := hs.jobs j hj
        have hjn : (rf s).job = jobN (some j) := by show jobN s.job = _; rw [hj]
        have hla : (rf s).left = j.left := by show leftN s.job = _; rw [hj]; rfl
        have hat : (rf s).at_ = j.at_ := by show atN s.job = _; rw [hj]; rfl
        have hvv : (rf s).v = j.v := by show vN s.job = _; rw [hj]; rfl
        by_cases hl : n < j.left
        · rw [if_pos hl, Prod.mk.injEq] at q'
          obtain ⟨rfl, rfl⟩ := q'
          have hjz : ((rf s).job == 0) = false := by rw [hjn, beq_eq_false_iff_ne]; exact job_ne j
          refine (tick4_c (F := rf s) (n := n) ho hn' hjz (by rw [hla]; exact hl) (by rw [hla]; exact jo.hi) (F' := rf { s with job := some { j with left := j.left - n } }) (Lib.hid ?_)).mono ?_
          · rw [hla]
            unfold rf
            simp only [hj]
            rfl
          · rintro x w' ⟨rfl, b⟩
            exact ⟨bw, kw, be, ke, rfl, Rnor.RPost.same (c := s.c) hR b⟩
        · rw [if_neg hl] at q'
          have hl' : (rf s).left ≤ n := by rw [hla]; omega
          obtain ⟨⟨e1, c1⟩, qE⟩ : ∃ p, Nr.erases (rf s).c (rf s).at_ = p := ⟨_, rfl⟩
          have hvr : 0 ≤ (rf s).v ∧ (rf s).v < 4294967296 := by rw [hvv]; exact ⟨jo.vlo, jo.vhi⟩
          cases hp : j.isp with
          | false =>
            have hd : Cf.does s.c j = (e1, c1) := by
              unfold Cf.does
              rw [hp, ← qE, hat]
              rfl
            rw [hd] at q'
            have hj32 : (rf s).job = 32 := by rw [hjn]; show (if j.isp = true then (64 : Int) else 32) = _; rw [hp]; rfl
            by_cases h5 : e1 = 5
            · rw [if_pos h5, Prod.mk.injEq] at q'
              obtain ⟨rfl, rfl⟩ := q'
              exact tickE5_c (e := 0) hR he hvr ho hn' hl' (Lib.hid qE) hj32 rfl h5 (Lib.hid rfl)
            · rw [if_neg h5, Prod.mk.injEq] at q'
              obtain ⟨rfl, rfl⟩ := q'
              exact tickEn_c (e := 0) hR he hvr ho hn' hl' (Lib.hid qE) hj32 rfl (by simpa using h5) (Lib.hid rfl)
          | true =>
            obtain ⟨⟨e2, c2⟩, qP⟩ : ∃ p, Nr.programs (rf s).c (rf s).at_ (rf s).v = p := ⟨_, rfl⟩
            have hd : Cf.does s.c j = (e2, c2) := by
              unfold Cf.does
              rw [hp, ← qP, hat, hvv]
              rfl
            rw [hd] at q'
            have hj64 : (rf s).job = 64 := by rw [hjn]; show (if j.isp = true then (64 : Int) else 32) = _; rw [hp]; rfl
            by_cases h5 : e2 = 5
            · rw [if_pos h5, Prod.mk.injEq] at q'
              obtain ⟨rfl, rfl⟩ := q'
              exact tickP5_c hR he hvr ho hn' hl' (Lib.hid qE) hj64 (Lib.hid qP) h5 (Lib.hid rfl)
            · rw [if_neg h5, Prod.mk.injEq] at q'
              obtain ⟨rfl, rfl⟩ := q'
              exact tickPn_c hR he hvr ho hn' hl' (Lib.hid qE) hj64 (Lib.hid qP) (by simpa using h5) (Lib.hid rfl)
end Rcfi
end Go.Proofs.Ytfghlfolejpjjaa

/- The reference's flash against the plain one: Read. -/
namespace Go.Proofs.Ytfghlfolejpjjaa
open Go.RowKit
set_option linter.unusedVariables false
set_option linter.unusedSimpArgs false
namespace Rcfi
open Rfl
theorem read_x {w : World} {bw kw be ke : Nat} {s : Cf.Fl} (hR : Rnor.RAt w bw kw be ke s.c) (hs : s.ok) (h : Eo s.errs) {at_ v e : Int} (q : Hid (Cf.read s at_ = (v, e))) :
    Calls Try.prog 51 #[.agg (fa bw kw be ke (rf s)), .int .i64 at_] w fun x w' => x = .returned (.tuple #[.int .u32 v, .int .i64 e]) ∧ Below w.heap.size w w' := by
  have hc := hR.ok
  have hl := Rnor.words_len hc
  have q' := q.out
  have he : 0 ≤ (rf s).errs ∧ (rf s).errs ≤ 50 := h.rng
  obtain ⟨n, q1⟩ : ∃ n, Hid (Nr.wrong (rf s).c at_ ((rf s).c.words.length : Int) = n) := ⟨_, Lib.hid rfl⟩
  have q2 : Cf.wrong s at_ = n := by
    rw [← q1.out]
    show Nr.wrong s.c at_ _ = Nr.wrong s.c at_ (s.c.words.length : Int)
    rw [hl]
  unfold Cf.read at q'
  rw [q2] at q'
  by_cases hn : n = 0
  · rw [if_pos hn, Prod.mk.injEq] at q'
    obtain ⟨q3, rfl⟩ := q'
    obtain ⟨m, rfl, hm⟩ := Nr.wrong_zero hc (show Nr.wrong s.c at_ ((s.c.wear.length : Int) * 64) = 0 from q2.trans hn)
    have hm2 : m < 4096 := by have := hc.size; have := hc.most; omega
    rw [Int.toNat_natCast] at q3
    cases hj : s.job with
    | some j =>
      rw [hj] at q3
      simp only at q3
      have hj0 : (rf s).job ≠ 0 := by show jobN s.job ≠ 0; rw [hj]; exact job_ne j
      have e1 : Cf.status s = (rf s).errs := by unfold Cf.status; rw [hj]; rfl
      rw [← q3, e1]
      exact read1_c (lk := false) (u := 0) (m := 0) hR he q1 hn (by simpa using hj0) hj0
    | none =>
      rw [hj] at q3
      simp only at q3
      have hj0 : (rf s).job = 0 := by show jobN s.job = 0; rw [hj]; rfl
      by_cases m0 : s.mode = 0
      · rw [if_pos m0] at q3
        exact read3_c (lk := false) hR he q1 hn hj0 rfl hm hm2 m0 q3
      · rw [if_neg m0] at q3
        by_cases m2 : s.mode = 2
        · rw [if_pos m2] at q3
          unfold Cf.ids at q3
          by_cases i0 : (m : Int) % 64 = 0
          · rw [if_pos i0] at q3
            subst q3
            exact read4_c (lk := false) (u := 0) hR he q1 hn hj0 rfl hm hm2 m2 i0
          · rw [if_neg i0] at q3
            by_cases i1 : (m : Int) % 64 = 1
            · rw [if_pos i1] at q3
              subst q3
              exact read5_c (lk := false) (u := 0) hR he q1 hn hj0 rfl hm hm2 m2 i1
            · rw [if_neg i1] at q3
              by_cases i2 : (m : Int) % 64 = 2
              · rw [if_pos i2, ← lock_eq] at q3
                cases hlk : (rf s).locks (m / 64)
                · rw [hlk, if_neg (by decide)] at q3
                  subst q3
                  exact read7_c (lk := false) (u := 0) hR he q1 hn hj0 rfl hm hm2 m2 i2 hlk
                · rw [hlk, if_pos rfl] at q3
                  subst q3
                  exact read6_c (lk := false) (u := 0) hR he q1 hn hj0 rfl hm hm2 m2 i2 hlk
              · rw [if_neg i2] at q3
                subst q3
                exact read8_c (lk := false) (u := 0) hR he q1 hn hj0 rfl hm hm2 m2 (by simpa using i0) (by simpa using i1) (by simpa using i2)
        · rw [if_neg m2] at q3
          by_cases m3 : s.mode = 3
          · rw [if_pos m3] at q3
            unfold Cf.ask at q3
            by_cases a0 : (m : Int) = 16
            · rw [if_pos a0] at q3
              subst q3
              exact read9_c (lk := false) (u := 0) (m := 0) hR he q1 hn hj0 a0 m3
            · rw [if_neg a0] at q3
              by_cases a1 : (m : Int) = 17
              · rw [if_pos a1] at q3
                subst q3
                exact read10_c (lk := false) (u := 0) (m := 0) hR he q1 hn hj0 a1 m3
              · rw [if_neg a1] at q3
                by_cases a2 : (m : Int) = 18
                · rw [if_pos a2] at q3
                  subst q3
                  exact read11_c (lk := false) (u := 0) (m := 0) hR he q1 hn hj0 a2 m3
                · rw [if_neg a2] at q3
                  by_cases a3 : (m : Int) = 44
                  · rw [if_pos a3] at q3
                    subst q3
                    exact read12_c (lk := false) (u := 0) (m := 0) hR he q1 hn hj0 a3 m3
                  · rw [if_neg a3] at q3
                    subst q3
                    by_cases b : (m : Int) < 16
                    · exact read13_c (lk := false) (u := 0) hR he q1 hn hj0 rfl hm hm2 m3 b
                    · exact read14_c (lk := false) (u := 0) hR he q1 hn hj0 rfl hm hm2 m3 (by omega) (by simpa using a3)
          · rw [if_neg m3] at q3
            have m1 : s.mode = 1 := by have := hs.mlo; have := hs.mhi; omega
            have e1 : Cf.status s = (rf s).errs + 128 := by rw [← rf_status h, if_pos hj0]
            rw [← q3, e1]
            exact read2_c (lk := false) (u := 0) (m := 0) hR he q1 hn hj0 m1
  · rw [if_neg hn, Prod.mk.injEq] at q'
    obtain ⟨rfl, rfl⟩ := q'
    exact read0_c (lk := false) (u := 0) (m := 0) hR he q1 (by simpa using hn)
end Rcfi
end Go.Proofs.Ytfghlfolejpjjaa

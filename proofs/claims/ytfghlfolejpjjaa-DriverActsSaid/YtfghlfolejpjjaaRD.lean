/- The parts: Rcfi4 Rcfi5 Rcfi6. -/
import Derived.Test.YtfghlfolejpjjaaRC
/- The reference's flash: Write. -/
namespace Go.Proofs.Ytfghlfolejpjjaa
open Go.RowKit
set_option linter.unusedVariables false
attribute [local go_sem] max2_int min2_int max_two min_two
namespace Rfl
def command (F : RF) (v : Int) : RF :=
  if v % 256 = 255 then { F with mode := 0 } else if v % 256 = 112 then { F with mode := 1 } else if v % 256 = 144 then { F with mode := 2 } else if v % 256 = 152 then { F with mode := 3 } else
  if v % 256 = 80 then { F with mode := 1, errs := 0 } else if v % 256 = 64 then { F with mode := 1, wait := 64 } else if v % 256 = 32 then { F with mode := 1, wait := 32 } else if v % 256 = 96 then { F with mode := 1, wait := 96 } else withE { F with mode := 1 } 48
end Rfl
namespace Rcfi
open Rfl
theorem waited_c {w : World} {bw kw be ke m : Nat} {F F' : RF} {v : Int} (he : 0 ≤ F.errs ∧ F.errs < 4294967296) (hm : m < 4096) (hv : 0 ≤ v ∧ v < 4294967296) (hw : F.wait = 64 ∨ F.wait = 32 ∨ F.wait = 96) (q : Hid (Rfl.waited F m v = F')) :
    Calls Try.prog 70 #[.agg (fa bw kw be ke F), .int .i64 m, .int .u32 v] w fun x w' => x = .returned (.agg (fa bw kw be ke F')) ∧ Below w.heap.size w w' := by
  have q' := q.out
  unfold Rfl.waited at q'
  rcases hw with hw | hw | hw
  · rw [if_pos hw] at q'
    cases hl : F.locks (m / 64)
    · rw [hl] at q'
      exact waitedA2_c he hm hv hl hw rfl (Lib.hid (by simpa using q'))
    · rw [hl] at q'
      exact waitedA1_c he hm hv hl hw rfl (Lib.hid (by simpa using q'))
  · rw [if_neg (by rw [hw]; decide), if_pos hw] at q'
    by_cases h3 : v % 256 = 208
    · rw [if_pos h3] at q'
      cases hl : F.locks (m / 64)
      · rw [hl] at q'
        exact waitedB3_c he hm hv hl hw h3 rfl (Lib.hid (by simpa using q'))
      · rw [hl] at q'
        exact waitedB2_c he hm hv hl hw h3 rfl (Lib.hid (by simpa using q'))
    · rw [if_neg h3] at q'
      exact waitedB1_c he hm hv rfl hw (by simpa using h3) (by simpa using h3) (Lib.hid q')
  · rw [if_neg (by rw [hw]; decide), if_neg (by rw [hw]; decide)] at q'
    by_cases h1 : v % 256 = 1
    · rw [if_pos h1] at q'
      exact waitedC1_c he hm hv rfl hw h1 (Lib.hid q')
    · rw [if_neg h1] at q'
      by_cases h3 : v % 256 = 208
      · rw [if_pos h3] at q'
        exact waitedC2_c he hm hv rfl hw h3 (Lib.hid q')
      · rw [if_neg h3] at q'
        exact waitedC3_c he hm hv rfl hw (by simpa using h3) (by simpa using h1) (Lib.hid q')
theorem Two.row {w W W' : World} {bw kw be ke bw' kw' be' ke' : Nat} {F F' : RF} {Z : Array Value} (T : Two w W bw kw be ke F Z) (hb : Fbox W' w.heap.size bw' kw' be' ke' F') (hk : Keep (fun k => k = w.heap.size) W W') : Two w W' bw' kw' be' ke' F' Z :=
  ⟨hb, (hk.block _ (Array.getElem?_eq_some_iff.1 T.res).1 (by omega)).trans T.res, below_row T.below hk (Nat.le_refl _)⟩
set_option maxHeartbeats 1000000 in
set_option maxRecDepth 100000 in
theorem write0_c {w : World} {bw kw be ke : Nat} {F F' : RF} {at_ v n : Int} (he : 0 ≤ F.errs ∧ F.errs < 4294967296) (hv : 0 ≤ v ∧ v < 4294967296) (q1 : Hid (Nr.wrong F.c at_ (F.c.words.length : Int) = n)) (hn : (n != 0) = true) (q : Hid (F = F')) :
    Calls Try.prog 62 #[.agg (fa bw kw be ke F), .int .i64 at_, .int .u32 v] w fun x w' => x = .returned (.tuple #[.agg (fa bw kw be ke F'), .int .i64 n]) ∧ Below w.heap.size w w' := by
  have T0 := Two.start w bw kw be ke F Try.zeroCells62
  go_enter Try.func62, Try.ntmps62
  go_upto_region 1 with (fail)
  generalize (w.alloc (.cells (fa bw kw be ke F) 62)).alloc (.cells Try.zeroCells62 62) = W at *
  go_upto_region 2 with (first | (refine load_f rfl _ rfl rfl T0.box ?_) | (go_at_call 65; refine (wrong_c q1).mono ?_; rintro x w1 ⟨rfl, b1⟩; replace T0 := T0.then b1; clear b1))
  obtain ⟨x0, x1, x2, x3, x4, x5, x6, x7, x8, x73, x74, x75, x76, xf⟩ := T0.box.cells
  go_wp2_with (first | (refine load_f rfl _ rfl rfl T0.box ?_) | (refine store_f rfl _ _ rfl rfl rfl T0.res zero77 ?_; intro w3 hb1 hk1 hs1))
  refine bodyPost_ret (retF2 rfl _ _ (w.heap.size + 1) _ rfl rfl hb1) rfl ⟨?_, below_row T0.below hk1 (Nat.le_succ _)⟩
  first
  | done
  | (rw [← q.out]; done)
  | (rw [← q.out]; rfl)
set_option maxHeartbeats 1000000 in
set_option maxRecDepth 100000 in
theorem write1_c {w : World} {bw kw be ke : Nat} {F F' : RF} {at_ v n : Int} (he : 0 ≤ F.errs ∧ F.errs < 4294967296) (hv : 0 ≤ v ∧ v < 4294967296) (q1 : Hid (Nr.wrong F.c at_ (F.c.words.length : Int) = n)) (hn : n = 0) (hj : (F.job != 0) = true) (q : Hid (F = F')) :
    Calls Try.prog 62 #[.agg (fa bw kw be ke F), .int .i64 at_, .int .u32 v] w fun x w' => x = .returned (.tuple #[.agg (fa bw kw be ke F'), .int .i64 0]) ∧ Below w.heap.size w w' := by
  have T0 := Two.start w bw kw be ke F Try.zeroCells62
  go_enter Try.func62, Try.ntmps62
  go_upto_region 1 with (fail)
  generalize (w.alloc (.cells (fa bw kw be ke F) 62)).alloc (.cells Try.zeroCells62 62) = W at *
  go_upto_region 2 with (first | (refine load_f rfl _ rfl rfl T0.box ?_) | (go_at_call 65; refine (wrong_c q1).mono ?_; rintro x w1 ⟨rfl, b1⟩; replace T0 := T0.then b1; clear b1))
  obtain ⟨x0, x1, x2, x3, x4, x5, x6, x7, x8, x73, x74, x75, x76, xf⟩ := T0.box.cells
  go_wp2_with (first | (refine load_f rfl _ rfl rfl T0.box ?_) | (refine store_f rfl _ _ rfl rfl rfl T0.res zero77 ?_; intro w3 hb1 hk1 hs1))
  refine bodyPost_ret (retF2 rfl _ _ (w.heap.size + 1) _ rfl rfl hb1) rfl ⟨?_, below_row T0.below hk1 (Nat.le_succ _)⟩
  first
  | done
  | (rw [← q.out]; done)
  | (rw [← q.out]; rfl)
set_option maxHeartbeats 1000000 in
set_option maxRecDepth 100000 in
theorem write2_c {w : World} {bw kw be ke : Nat} {F F' : RF} {at_ v n : Int} (he : 0 ≤ F.errs ∧ F.errs < 4294967296) (hv : 0 ≤ v ∧ v < 4294967296) (q1 : Hid (Nr.wrong F.c at_ (F.c.words.length : Int) = n)) (hn : n = 0) (hj : F.job = 0) (hw : (F.wait != 0) = true) (hc : ∀ W : World, Calls Try.prog 70 #[.agg (fa bw kw be ke F), .int .i64 at_, .int .u32 v] W fun x w' => x = .returned (.agg (fa bw kw be ke F')) ∧ Below W.heap.size W w') (q : Hid (F' = F')) :
    Calls Try.prog 62 #[.agg (fa bw kw be ke F), .int .i64 at_, .int .u32 v] w fun x w' => x = .returned (.tuple #[.agg (fa bw kw be ke F'), .int .i64 0]) ∧ Below w.heap.size w w' := by
  have T0 := Two.start w bw kw be ke F Try.zeroCells62
  go_enter Try.func62, Try.ntmps62
  go_upto_region 1 with (fail)
  generalize (w.alloc (.cells (fa bw kw be ke F) 62)).alloc (.cells Try.zeroCells62 62) = W at *
  go_upto_region 2 with (first | (refine load_f rfl _ rfl rfl T0.box ?_) | (go_at_call 65; refine (wrong_c q1).mono ?_; rintro x w1 ⟨rfl, b1⟩; replace T0 := T0.then b1; clear b1))
  obtain ⟨x0, x1, x2, x3, x4, x5, x6, x7, x8, x73, x74, x75, x76, xf⟩ := T0.box.cells
  go_wp2_with (first | (refine load_f rfl _ rfl rfl T0.box ?_) | (go_at_call 70; refine (hc _).mono ?_; rintro x w2 ⟨rfl, b2⟩; replace T0 := T0.then b2; clear b2 hc) | (refine store_f rfl _ _ rfl rfl rfl T0.res zero77 ?_; intro w3 hb1 hk1 hs1))
  refine bodyPost_ret (retF2 rfl _ _ (w.heap.size + 1) _ rfl rfl hb1) rfl ⟨?_, below_row T0.below hk1 (Nat.le_succ _)⟩
  rfl
set_option maxHeartbeats 1000000 in
set_option maxRecDepth 100000 in
theorem write255_c {w : World} {bw kw be ke : Nat} {F F' : RF} {at_ v n : Int} (he : 0 ≤ F.errs ∧ F.errs < 4294967296) (hv : 0 ≤ v ∧ v < 4294967296) (q1 : Hid (Nr.wrong F.c at_ (F.c.words.length : Int) = n)) (hn : n = 0) (hj : F.job = 0) (hw : F.wait = 0) (h3 : v % 256 = 255) (q : Hid ({ F with mode := 0 } = F')) :
    Calls Try.prog 62 #[.agg (fa bw kw be ke F), .int .i64 at_, .int .u32 v] w fun x w' => x = .returned (.tuple #[.agg (fa bw kw be ke F'), .int .i64 0]) ∧ Below w.heap.size w w' := by
  have T0 := Two.start w bw kw be ke F Try.zeroCells62
  go_enter Try.func62, Try.ntmps62
  go_upto_region 1 with (fail)
  generalize (w.alloc (.cells (fa bw kw be ke F) 62)).alloc (.cells Try.zeroCells62 62) = W at *
  go_upto_region 2 with (first | (refine load_f rfl _ rfl rfl T0.box ?_) | (go_at_call 65; refine (wrong_c q1).mono ?_; rintro x w1 ⟨rfl, b1⟩; replace T0 := T0.then b1; clear b1))
  obtain ⟨x0, x1, x2, x3, x4, x5, x6, x7, x8, x73, x74, x75, x76, xf⟩ := T0.box.cells
  have T1 := T0.alter (T0.box.setMode 1)
  have TT := T1.alter (T1.box.setMode 0)
  go_upto_region 22 with (fail)
  clear x0 x1 x2 x3 x4 x5 x6 x7 x8 x73 x74 x75 x76 xf
  clear T0
  generalize (w1.setCell ⟨w.heap.size, 6, none⟩ (.int .i64 1)).setCell ⟨w.heap.size, 6, none⟩ (.int .i64 0) = W5 at *
  have T0 := TT
  go_wp2_with (first | (refine load_f rfl _ rfl rfl T0.box ?_) | (refine store_f rfl _ _ rfl rfl rfl T0.res zero77 ?_; intro w3 hb1 hk1 hs1))
  refine bodyPost_ret (retF2 rfl _ _ (w.heap.size + 1) _ rfl rfl hb1) rfl ⟨?_, below_row T0.below hk1 (Nat.le_succ _)⟩
  first
  | done
  | (rw [← q.out]; done)
  | (rw [← q.out]; rfl)
set_option maxHeartbeats 1000000 in
set_option maxRecDepth 100000 in
theorem write112_c {w : World} {bw kw be ke : Nat} {F F' : RF} {at_ v n : Int} (he : 0 ≤ F.errs ∧ F.errs < 4294967296) (hv : 0 ≤ v ∧ v < 4294967296) (q1 : Hid (Nr.wrong F.c at_ (F.c.words.length : Int) = n)) (hn : n = 0) (hj : F.job = 0) (hw : F.wait = 0) (h3 : v % 256 = 112) (q : Hid ({ F with mode := 1 } = F')) :
    Calls Try.prog 62 #[.agg (fa bw kw be ke F), .int .i64 at_, .int .u32 v] w fun x w' => x = .returned (.tuple #[.agg (fa bw kw be ke F'), .int .i64 0]) ∧ Below w.heap.size w w' := by
  have T0 := Two.start w bw kw be ke F Try.zeroCells62
  go_enter Try.func62, Try.ntmps62
  go_upto_region 1 with (fail)
  generalize (w.alloc (.cells (fa bw kw be ke F) 62)).alloc (.cells Try.zeroCells62 62) = W at *
  go_upto_region 2 with (first | (refine load_f rfl _ rfl rfl T0.box ?_) | (go_at_call 65; refine (wrong_c q1).mono ?_; rintro x w1 ⟨rfl, b1⟩; replace T0 := T0.then b1; clear b1))
  obtain ⟨x0, x1, x2, x3, x4, x5, x6, x7, x8, x73, x74, x75, x76, xf⟩ := T0.box.cells
  have T1 := T0.alter (T0.box.setMode 1)
  have TT := T1
  go_upto_region 22 with (fail)
  clear x0 x1 x2 x3 x4 x5 x6 x7 x8 x73 x74 x75 x76 xf
  clear T0
  generalize w1.setCell ⟨w.heap.size, 6, none⟩ (.int .i64 1) = W5 at *
  have T0 := TT
  go_wp2_with (first | (refine load_f rfl _ rfl rfl T0.box ?_) | (refine store_f rfl _ _ rfl rfl rfl T0.res zero77 ?_; intro w3 hb1 hk1 hs1))
  refine bodyPost_ret (retF2 rfl _ _ (w.heap.size + 1) _ rfl rfl hb1) rfl ⟨?_, below_row T0.below hk1 (Nat.le_succ _)⟩
  first
  | done
  | (rw [← q.out]; done)
  | (rw [← q.out]; rfl)
set_option maxHeartbeats 1000000 in
set_option maxRecDepth 100000 in
theorem write144_c {w : World} {bw kw be ke : Nat} {F F' : RF} {at_ v n : Int} (he : 0 ≤ F.errs ∧ F.errs < 4294967296) (hv : 0 ≤ v ∧ v < 4294967296) (q1 : Hid (Nr.wrong F.c at_ (F.c.words.length : Int) = n)) (hn : n = 0) (hj : F.job = 0) (hw : F.wait = 0) (h3 : v % 256 = 144) (q : Hid ({ F with mode := 2 } = F')) :
    Calls Try.prog 62 #[.agg (fa bw kw be ke F), .int .i64 at_, .int .u32 v] w fun x w' => x = .returned (.tuple #[.agg (fa bw kw be ke F'), .int .i64 0]) ∧ Below w.heap.size w w' := by
  have T0 := Two.start w bw kw be ke F Try.zeroCells62
  go_enter Try.func62, Try.ntmps62
  go_upto_region 1 with (fail)
  generalize (w.alloc (.cells (fa bw kw be ke F) 62)).alloc (.cells Try.zeroCells62 62) = W at *
  go_upto_region 2 with (first | (refine load_f rfl _ rfl rfl T0.box ?_) | (go_at_call 65; refine (wrong_c q1).mono ?_; rintro x w1 ⟨rfl, b1⟩; replace T0 := T0.then b1; clear b1))
  obtain ⟨x0, x1, x2, x3, x4, x5, x6, x7, x8, x73, x74, x75, x76, xf⟩ := T0.box.cells
  have T1 := T0.alter (T0.box.setMode 1)
  have TT := T1.alter (T1.box.setMode 2)
  go_upto_region 22 with (fail)
  clear x0 x1 x2 x3 x4 x5 x6 x7 x8 x73 x74 x75 x76 xf
  clear T0
  generalize (w1.setCell ⟨w.heap.size, 6, none⟩ (.int .i64 1)).setCell ⟨w.heap.size, 6, none⟩ (.int .i64 2) = W5 at *
  have T0 := TT
  go_wp2_with (first | (refine load_f rfl _ rfl rfl T0.box ?_) | (refine store_f rfl _ _ rfl rfl rfl T0.res zero77 ?_; intro w3 hb1 hk1 hs1))
  refine bodyPost_ret (retF2 rfl _ _ (w.heap.size + 1) _ rfl rfl hb1) rfl ⟨?_, below_row T0.below hk1 (Nat.le_succ _)⟩
  first
  | done
  | (rw [← q.out]; done)
  | (rw [← q.out]; rfl)
set_option maxHeartbeats 1000000 in
set_option maxRecDepth 100000 in
theorem write152_c {w : World} {bw kw be ke : Nat} {F F' : RF} {at_ v n : Int} (he : 0 ≤ F.errs ∧ F.errs < 4294967296) (hv : 0 ≤ v ∧ v < 4294967296) (q1 : Hid (Nr.wrong F.c at_ (F.c.words.length : Int) = n)) (hn : n = 0) (hj : F.job = 0) (hw : F.wait = 0) (h3 : v % 256 = 152) (q : Hid ({ F with mode := 3 } = F')) :
    Calls Try.prog 62 #[.agg (fa bw kw be ke F), .int .i64 at_, .int .u32 v] w fun x w' => x = .returned (.tuple #[.agg (fa bw kw be ke F'), .int .i64 0]) ∧ Below w.heap.size w w' := by
  have T0 := Two.start w bw kw be ke F Try.zeroCells62
  go_enter Try.func62, Try.ntmps62
  go_upto_region 1 with (fail)
  generalize (w.alloc (.cells (fa bw kw be ke F) 62)).alloc (.cells Try.zeroCells62 62) = W at *
  go_upto_region 2 with (first | (refine load_f rfl _ rfl rfl T0.box ?_) | (go_at_call 65; refine (wrong_c q1).mono ?_; rintro x w1 ⟨rfl, b1⟩; replace T0 := T0.then b1; clear b1))
  obtain ⟨x0, x1, x2, x3, x4, x5, x6, x7, x8, x73, x74, x75, x76, xf⟩ := T0.box.cells
  have T1 := T0.alter (T0.box.setMode 1)
  have TT := T1.alter (T1.box.setMode 3)
  go_upto_region 22 with (fail)
  clear x0 x1 x2 x3 x4 x5 x6 x7 x8 x73 x74 x75 x76 xf
  clear T0
  generalize (w1.setCell ⟨w.heap.size, 6, none⟩ (.int .i64 1)).setCell ⟨w.heap.size, 6, none⟩ (.int .i64 3) = W5 at *
  have T0 := TT
  go_wp2_with (first | (refine load_f rfl _ rfl rfl T0.box ?_) | (refine store_f rfl _ _ rfl rfl rfl T0.res zero77 ?_; intro w3 hb1 hk1 hs1))
  refine bodyPost_ret (retF2 rfl _ _ (w.heap.size + 1) _ rfl rfl hb1) rfl ⟨?_, below_row T0.below hk1 (Nat.le_succ _)⟩
  first
  | done
  | (rw [← q.out]; done)
  | (rw [← q.out]; rfl)
set_option maxHeartbeats 1000000 in
set_option maxRecDepth 100000 in
theorem write80_c {w : World} {bw kw be ke : Nat} {F F' : RF} {at_ v n : Int} (he : 0 ≤ F.errs ∧ F.errs < 4294967296) (hv : 0 ≤ v ∧ v < 4294967296) (q1 : Hid (Nr.wrong F.c at_ (F.c.words.length : Int) = n)) (hn : n = 0) (hj : F.job = 0) (hw : F.wait = 0) (h3 : v % 256 = 80) (q : Hid ({ F with mode := 1, errs := 0 } = F')) :
    Calls Try.prog 62 #[.agg (fa bw kw be ke F), .int .i64 at_, .int .u32 v] w fun x w' => x = .returned (.tuple #[.agg (fa bw kw be ke F'), .int .i64 0]) ∧ Below w.heap.size w w' := by
  have T0 := Two.start w bw kw be ke F Try.zeroCells62
  go_enter Try.func62, Try.ntmps62
  go_upto_region 1 with (fail)
  generalize (w.alloc (.cells (fa bw kw be ke F) 62)).alloc (.cells Try.zeroCells62 62) = W at *
  go_upto_region 2 with (first | (refine load_f rfl _ rfl rfl T0.box ?_) | (go_at_call 65; refine (wrong_c q1).mono ?_; rintro x w1 ⟨rfl, b1⟩; replace T0 := T0.then b1; clear b1))
  obtain ⟨x0, x1, x2, x3, x4, x5, x6, x7, x8, x73, x74, x75, x76, xf⟩ := T0.box.cells
  have T1 := T0.alter (T0.box.setMode 1)
  have TT := T1.alter (T1.box.setErrs 0)
  go_upto_region 22 with (fail)
  clear x0 x1 x2 x3 x4 x5 x6 x7 x8 x73 x74 x75 x76 xf
  clear T0
  generalize (w1.setCell ⟨w.heap.size, 6, none⟩ (.int .i64 1)).setCell ⟨w.heap.size, 8, none⟩ (.int .u32 0) = W5 at *
  have T0 := TT
  go_wp2_with (first | (refine load_f rfl _ rfl rfl T0.box ?_) | (refine store_f rfl _ _ rfl rfl rfl T0.res zero77 ?_; intro w3 hb1 hk1 hs1))
  refine bodyPost_ret (retF2 rfl _ _ (w.heap.size + 1) _ rfl rfl hb1) rfl ⟨?_, below_row T0.below hk1 (Nat.le_succ _)⟩
  first
  | done
  | (rw [← q.out]; done)
  | (rw [← q.out]; rfl)
set_option maxHeartbeats 1000000 in
set_option maxRecDepth 100000 in
theorem write64_c {w : World} {bw kw be ke : Nat} {F F' : RF} {at_ v n : Int} (he : 0 ≤ F.errs ∧ F.errs < 4294967296) (hv : 0 ≤ v ∧ v < 4294967296) (q1 : Hid (Nr.wrong F.c at_ (F.c.words.length : Int) = n)) (hn : n = 0) (hj : F.job = 0) (hw : F.wait = 0) (h3 : v % 256 = 64) (q : Hid ({ F with mode := 1, wait := 64 } = F')) :
    Calls Try.prog 62 #[.agg (fa bw kw be ke F), .int .i64 at_, .int .u32 v] w fun x w' => x = .returned (.tuple #[.agg (fa bw kw be ke F'), .int .i64 0]) ∧ Below w.heap.size w w' := by
  have T0 := Two.start w bw kw be ke F Try.zeroCells62
  go_enter Try.func62, Try.ntmps62
  go_upto_region 1 with (fail)
  generalize (w.alloc (.cells (fa bw kw be ke F) 62)).alloc (.cells Try.zeroCells62 62) = W at *
  go_upto_region 2 with (first | (refine load_f rfl _ rfl rfl T0.box ?_) | (go_at_call 65; refine (wrong_c q1).mono ?_; rintro x w1 ⟨rfl, b1⟩; replace T0 := T0.then b1; clear b1))
  obtain ⟨x0, x1, x2, x3, x4, x5, x6, x7, x8, x73, x74, x75, x76, xf⟩ := T0.box.cells
  have T1 := T0.alter (T0.box.setMode 1)
  have TT := T1.alter (T1.box.setWait 64)
  go_upto_region 22 with (fail)
  clear x0 x1 x2 x3 x4 x5 x6 x7 x8 x73 x74 x75 x76 xf
  clear T0
  generalize (w1.setCell ⟨w.heap.size, 6, none⟩ (.int .i64 1)).setCell ⟨w.heap.size, 7, none⟩ (.int .i64 64) = W5 at *
  have T0 := TT
  go_wp2_with (first | (refine load_f rfl _ rfl rfl T0.box ?_) | (refine store_f rfl _ _ rfl rfl rfl T0.res zero77 ?_; intro w3 hb1 hk1 hs1))
  refine bodyPost_ret (retF2 rfl _ _ (w.heap.size + 1) _ rfl rfl hb1) rfl ⟨?_, below_row T0.below hk1 (Nat.le_succ _)⟩
  first
  | done
  | (rw [← q.out]; done)
  | (rw [← q.out]; rfl)
set_option maxHeartbeats 1000000 in
set_option maxRecDepth 100000 in
theorem write32_c {w : World} {bw kw be ke : Nat} {F F' : RF} {at_ v n : Int} (he : 0 ≤ F.errs ∧ F.errs < 4294967296) (hv : 0 ≤ v ∧ v < 4294967296) (q1 : Hid (Nr.wrong F.c at_ (F.c.words.length : Int) = n)) (hn : n = 0) (hj : F.job = 0) (hw : F.wait = 0) (h3 : v % 256 = 32) (q : Hid ({ F with mode := 1, wait := 32 } = F')) :
    Calls Try.prog 62 #[.agg (fa bw kw be ke F), .int .i64 at_, .int .u32 v] w fun x w' => x = .returned (.tuple #[.agg (fa bw kw be ke F'), .int .i64 0]) ∧ Below w.heap.size w w' := by
  have T0 := Two.start w bw kw be ke F Try.zeroCells62
  go_enter Try.func62, Try.ntmps62
  go_upto_region 1 with (fail)
  generalize (w.alloc (.cells (fa bw kw be ke F) 62)).alloc (.cells Try.zeroCells62 62) = W at *
  go_upto_region 2 with (first | (refine load_f rfl _ rfl rfl T0.box ?_) | (go_at_call 65; refine (wrong_c q1).mono ?_; rintro x w1 ⟨rfl, b1⟩; replace T0 := T0.then b1; clear b1))
  obtain ⟨x0, x1, x2, x3, x4, x5, x6, x7, x8, x73, x74, x75, x76, xf⟩ := T0.box.cells
  have T1 := T0.alter (T0.box.setMode 1)
  have TT := T1.alter (T1.box.setWait 32)
  go_upto_region 22 with (fail)
  clear x0 x1 x2 x3 x4 x5 x6 x7 x8 x73 x74 x75 x76 xf
  clear T0
  generalize (w1.setCell ⟨w.heap.size, 6, none⟩ (.int .i64 1)).setCell ⟨w.heap.size, 7, none⟩ (.int .i64 32) = W5 at *
  have T0 := TT
  go_wp2_with (first | (refine load_f rfl _ rfl rfl T0.box ?_) | (refine store_f rfl _ _ rfl rfl rfl T0.res zero77 ?_; intro w3 hb1 hk1 hs1))
  refine bodyPost_ret (retF2 rfl _ _ (w.heap.size + 1) _ rfl rfl hb1) rfl ⟨?_, below_row T0.below hk1 (Nat.le_succ _)⟩
  first
  | done
  | (rw [← q.out]; done)
  | (rw [← q.out]; rfl)
set_option maxHeartbeats 1000000 in
set_option maxRecDepth 100000 in
theorem write96_c {w : World} {bw kw be ke : Nat} {F F' : RF} {at_ v n : Int} (he : 0 ≤ F.errs ∧ F.errs < 4294967296) (hv : 0 ≤ v ∧ v < 4294967296) (q1 : Hid (Nr.wrong F.c at_ (F.c.words.length : Int) = n)) (hn : n = 0) (hj : F.job = 0) (hw : F.wait = 0) (h3 : v % 256 = 96) (q : Hid ({ F with mode := 1, wait := 96 } = F')) :
    Calls Try.prog 62 #[.agg (fa bw kw be ke F), .int .i64 at_, .int .u32 v] w fun x w' => x = .returned (.tuple #[.agg (fa bw kw be ke F'), .int .i64 0]) ∧ Below w.heap.size w w' := by
  have T0 := Two.start w bw kw be ke F Try.zeroCells62
  go_enter Try.func62, Try.ntmps62
  go_upto_region 1 with (fail)
  generalize (w.alloc (.cells (fa bw kw be ke F) 62)).alloc (.cells Try.zeroCells62 62) = W at *
  go_upto_region 2 with (first | (refine load_f rfl _ rfl rfl T0.box ?_) | (go_at_call 65; refine (wrong_c q1).mono ?_; rintro x w1 ⟨rfl, b1⟩; replace T0 := T0.then b1; clear b1))
  obtain ⟨x0, x1, x2, x3, x4, x5, x6, x7, x8, x73, x74, x75, x76, xf⟩ := T0.box.cells
  have T1 := T0.alter (T0.box.setMode 1)
  have TT := T1.alter (T1.box.setWait 96)
  go_upto_region 22 with (fail)
  clear x0 x1 x2 x3 x4 x5 x6 x7 x8 x73 x74 x75 x76 xf
  clear T0
  generalize (w1.setCell ⟨w.heap.size, 6, none⟩ (.int .i64 1)).setCell ⟨w.heap.size, 7, none⟩ (.int .i64 96) = W5 at *
  have T0 := TT
  go_wp2_with (first | (refine load_f rfl _ rfl rfl T0.box ?_) | (refine store_f rfl _ _ rfl rfl rfl T0.res zero77 ?_; intro w3 hb1 hk1 hs1))
  refine bodyPost_ret (retF2 rfl _ _ (w.heap.size + 1) _ rfl rfl hb1) rfl ⟨?_, below_row T0.below hk1 (Nat.le_succ _)⟩
  first
  | done
  | (rw [← q.out]; done)
  | (rw [← q.out]; rfl)
set_option maxHeartbeats 1000000 in
set_option maxRecDepth 100000 in
theorem writeX_c {w : World} {bw kw be ke : Nat} {F F' : RF} {at_ v n : Int} (he : 0 ≤ F.errs ∧ F.errs < 4294967296) (hv : 0 ≤ v ∧ v < 4294967296) (q1 : Hid (Nr.wrong F.c at_ (F.c.words.length : Int) = n)) (hn : n = 0) (hj : F.job = 0) (hw : F.wait = 0) (n255 : (v % 256 == 255) = false) (n112 : (v % 256 == 112) = false) (n144 : (v % 256 == 144) = false) (n152 : (v % 256 == 152) = false) (n80 : (v % 256 == 80) = false) (n64 : (v % 256 == 64) = false) (n32 : (v % 256 == 32) = false) (n96 : (v % 256 == 96) = false) (q : Hid (withE { F with mode := 1 } 48 = F')) :
    Calls Try.prog 62 #[.agg (fa bw kw be ke F), .int .i64 at_, .int .u32 v] w fun x w' => x = .returned (.tuple #[.agg (fa bw kw be ke F'), .int .i64 0]) ∧ Below w.heap.size w w' := by
  have T0 := Two.start w bw kw be ke F Try.zeroCells62
  go_enter Try.func62, Try.ntmps62
  go_upto_region 1 with (fail)
  generalize (w.alloc (.cells (fa bw kw be ke F) 62)).alloc (.cells Try.zeroCells62 62) = W at *
  go_upto_region 2 with (first | (refine load_f rfl _ rfl rfl T0.box ?_) | (go_at_call 65; refine (wrong_c q1).mono ?_; rintro x w1 ⟨rfl, b1⟩; replace T0 := T0.then b1; clear b1))
  obtain ⟨x0, x1, x2, x3, x4, x5, x6, x7, x8, x73, x74, x75, x76, xf⟩ := T0.box.cells
  have T1 := T0.alter (T0.box.setMode 1)
  go_upto_region 8 with (fail)
  clear x0 x1 x2 x3 x4 x5 x6 x7 x8 x73 x74 x75 x76 xf
  clear T0
  generalize w1.setCell ⟨w.heap.size, 6, none⟩ (.int .i64 1) = W5 at *
  have T0 := T1
  clear T1 hn hj hw n255 n112 n144 n152 n80 n64 n32 n96
  go_upto_region 22 with (first | (refine load_f rfl _ rfl rfl T0.box ?_) | (go_at_call 71; refine (with_c (F := { F with mode := 1 }) (b := 48) he (by decide) (Lib.hid rfl)).mono ?_; rintro x w2 ⟨rfl, b2⟩; replace T0 := T0.then b2; clear b2) | (refine store_f rfl _ _ rfl rfl rfl T0.box (fa_size _ _ _ _ _) ?_; intro w3 hb1 hk1 hs1; have T2 := T0.row hb1 hk1; clear T0 hb1 hk1 hs1))
  have T0 := T2
  clear T2
  go_wp2_with (first | (refine load_f rfl _ rfl rfl T0.box ?_) | (refine store_f rfl _ _ rfl rfl rfl T0.res zero77 ?_; intro w3 hb1 hk1 hs1))
  refine bodyPost_ret (retF2 rfl _ _ (w.heap.size + 1) _ rfl rfl hb1) rfl ⟨?_, below_row T0.below hk1 (Nat.le_succ _)⟩
  first
  | done
  | (rw [← q.out]; done)
  | (rw [← q.out]; rfl)
end Rcfi
end Go.Proofs.Ytfghlfolejpjjaa

/- The reference's flash: Reset. -/
namespace Go.Proofs.Ytfghlfolejpjjaa
open Go.RowKit
set_option linter.unusedVariables false
attribute [local go_sem] max2_int min2_int max_two min_two
namespace Rfl
def fresh (c : Nr.C) : RF := ⟨c, 0, 0, 0, fun _ => false, 0, 0, 0, 0⟩
/-- The chip's cells as a value. -/
def cv (bw kw be ke : Nat) (c : Nr.C) : Value := .agg #[.slice (some ⟨bw, 0, none⟩) c.words.length kw, .slice (some ⟨be, 0, none⟩) c.wear.length ke, .int .i64 c.endure, .int .i64 c.fuse, .int .u32 c.pick, .bool c.off]
theorem built_f (bw kw be ke : Nat) (c : Nr.C) : Try.prog.built 62 [(0, cv bw kw be ke c)] = some (fa bw kw be ke (fresh c)) := by kernel_rfl
end Rfl
namespace Rcfi
open Rfl
theorem build_f {ops : Array Oper} {rest : List Oper} {o : Oper} {a : Act} {w : World} {Q : Exit → Act → World → Prop} {bw kw be ke : Nat} {c : Nr.C} (hgd : o.guard = none) (x : Operand) (ho : o.op = .build 62 #[(0, x)]) (hx : a.eval x = .agg #[.slice (some ⟨bw, 0, none⟩) c.words.length kw, .slice (some ⟨be, 0, none⟩) c.wear.length ke, .int .i64 c.endure, .int .i64 c.fuse, .int .u32 c.pick, .bool c.off])
    (h : wpList Try.prog ops Q rest (a.put o.dst (.agg (fa bw kw be ke (fresh c)))) w) : wpList Try.prog ops Q (o :: rest) a w := by
  have e : Try.prog.built 62 ((#[(0, x)] : Array (Nat × Operand)).map fun (i, x) => (i, a.eval x)).toList = some (fa bw kw be ke (fresh c)) := by
    have : ((#[(0, x)] : Array (Nat × Operand)).map fun (i, x) => (i, a.eval x)).toList = [(0, cv bw kw be ke c)] := by
      simp [hx, cv]
    rw [this]
    exact built_f bw kw be ke c
  refine wpList_build hgd _ _ ho (by rw [e]; rfl) ?_
  rw [e]
  exact h
set_option maxHeartbeats 1000000 in
set_option maxRecDepth 100000 in
theorem reset_c {w : World} {bw kw be ke : Nat} {F : RF} :
    Calls Try.prog 33 #[.agg (fa bw kw be ke F)] w fun x w' => x = .returned (.agg (fa bw kw be ke (fresh F.c))) ∧ Below w.heap.size w w' := by
  have T0 := Two.start w bw kw be ke F Try.zeroCells62
  go_enter Try.func33, Try.ntmps33
  go_upto_region 1 with (fail)
  generalize (w.alloc (.cells (fa bw kw be ke F) 62)).alloc (.cells Try.zeroCells62 62) = W at *
  obtain ⟨x0, x1, x2, x3, x4, x5, x6, x7, x8, x73, x74, x75, x76, xf⟩ := T0.box.cells
  go_wp2_with (first | (refine build_f (bw := bw) (kw := kw) (be := be) (ke := ke) (c := F.c) rfl _ rfl rfl ?_) | (refine store_f rfl _ _ rfl rfl rfl T0.res zero77 ?_; intro w3 hb1 hk1 hs1))
  refine bodyPost_ret (retF rfl _ _ (w.heap.size + 1) rfl hb1) rfl ⟨rfl, below_row T0.below hk1 (Nat.le_succ _)⟩
end Rcfi
end Go.Proofs.Ytfghlfolejpjjaa

/- The reference's flash: Read. -/
namespace Go.Proofs.Ytfghlfolejpjjaa
open Go.RowKit
set_option linter.unusedVariables false
attribute [local go_sem] max2_int min2_int max_two min_two
namespace Rcfi
open Rfl
set_option maxHeartbeats 1000000 in
set_option maxRecDepth 100000 in
theorem read0_c {w : World} {bw kw be ke m : Nat} {F : RF} {at_ n : Int} {lk : Bool} {u : Int} (h : Rnor.RAt w bw kw be ke F.c) (he : 0 ≤ F.errs ∧ F.errs ≤ 50) (q1 : Hid (Nr.wrong F.c at_ (F.c.words.length : Int) = n)) (hn : (n != 0) = true) :
    Calls Try.prog 51 #[.agg (fa bw kw be ke F), .int .i64 at_] w fun x w' => x = .returned (.tuple #[.int .u32 0, .int .i64 n]) ∧ Below w.heap.size w w' := by
  have hb := one_box w bw kw be ke F
  have B := alloc1_below w (.cells (fa bw kw be ke F) 62)
  go_enter Try.func51, Try.ntmps51
  go_upto_region 1 with (fail)
  generalize w.alloc (.cells (fa bw kw be ke F) 62) = W at *
  go_upto_region 2 with (first | (refine load_f rfl _ rfl rfl hb ?_) | (go_at_call 65; refine (wrong_c q1).mono ?_; rintro x w1 ⟨rfl, b1⟩; replace hb := hb.below b1; replace B := Below.then B b1; clear b1))
  obtain ⟨x0, x1, x2, x3, x4, x5, x6, x7, x8, x73, x74, x75, x76, xf⟩ := hb.cells
  go_wp2
  go_ret2
  exact ⟨rfl, B⟩
set_option maxHeartbeats 1000000 in
set_option maxRecDepth 100000 in
theorem read1_c {w : World} {bw kw be ke m : Nat} {F : RF} {at_ n : Int} {lk : Bool} {u : Int} (h : Rnor.RAt w bw kw be ke F.c) (he : 0 ≤ F.errs ∧ F.errs ≤ 50) (q1 : Hid (Nr.wrong F.c at_ (F.c.words.length : Int) = n)) (hn : n = 0) (hj : (F.job != 0) = true) (hj2 : ¬ F.job = 0) :
    Calls Try.prog 51 #[.agg (fa bw kw be ke F), .int .i64 at_] w fun x w' => x = .returned (.tuple #[.int .u32 F.errs, .int .i64 0]) ∧ Below w.heap.size w w' := by
  have hb := one_box w bw kw be ke F
  have B := alloc1_below w (.cells (fa bw kw be ke F) 62)
  go_enter Try.func51, Try.ntmps51
  go_upto_region 1 with (fail)
  generalize w.alloc (.cells (fa bw kw be ke F) 62) = W at *
  go_upto_region 2 with (first | (refine load_f rfl _ rfl rfl hb ?_) | (go_at_call 65; refine (wrong_c q1).mono ?_; rintro x w1 ⟨rfl, b1⟩; replace hb := hb.below b1; replace B := Below.then B b1; clear b1))
  obtain ⟨x0, x1, x2, x3, x4, x5, x6, x7, x8, x73, x74, x75, x76, xf⟩ := hb.cells
  go_wp2_with (first | (refine load_f rfl _ rfl rfl hb ?_) | (go_at_call 63; refine (status_c he (Lib.hid (if_neg hj2))).mono ?_; rintro x w2 ⟨rfl, b2⟩; replace B := Below.then B b2; clear b2))
  go_ret2
  exact ⟨rfl, B⟩
set_option maxHeartbeats 1000000 in
set_option maxRecDepth 100000 in
theorem read2_c {w : World} {bw kw be ke m : Nat} {F : RF} {at_ n : Int} {lk : Bool} {u : Int} (h : Rnor.RAt w bw kw be ke F.c) (he : 0 ≤ F.errs ∧ F.errs ≤ 50) (q1 : Hid (Nr.wrong F.c at_ (F.c.words.length : Int) = n)) (hn : n = 0) (hj : F.job = 0) (hm : F.mode = 1) :
    Calls Try.prog 51 #[.agg (fa bw kw be ke F), .int .i64 at_] w fun x w' => x = .returned (.tuple #[.int .u32 (F.errs + 128), .int .i64 0]) ∧ Below w.heap.size w w' := by
  have hb := one_box w bw kw be ke F
  have B := alloc1_below w (.cells (fa bw kw be ke F) 62)
  go_enter Try.func51, Try.ntmps51
  go_upto_region 1 with (fail)
  generalize w.alloc (.cells (fa bw kw be ke F) 62) = W at *
  go_upto_region 2 with (first | (refine load_f rfl _ rfl rfl hb ?_) | (go_at_call 65; refine (wrong_c q1).mono ?_; rintro x w1 ⟨rfl, b1⟩; replace hb := hb.below b1; replace B := Below.then B b1; clear b1))
  obtain ⟨x0, x1, x2, x3, x4, x5, x6, x7, x8, x73, x74, x75, x76, xf⟩ := hb.cells
  go_wp2_with (first | (refine load_f rfl _ rfl rfl hb ?_) | (go_at_call 63; refine (status_c he (Lib.hid (if_pos hj))).mono ?_; rintro x w2 ⟨rfl, b2⟩; replace B := Below.then B b2; clear b2))
  go_ret2
  exact ⟨rfl, B⟩
set_option maxHeartbeats 1000000 in
set_option maxRecDepth 100000 in
theorem read3_c {w : World} {bw kw be ke m : Nat} {F : RF} {at_ n : Int} {lk : Bool} {u : Int} (h : Rnor.RAt w bw kw be ke F.c) (he : 0 ≤ F.errs ∧ F.errs ≤ 50) (q1 : Hid (Nr.wrong F.c at_ (F.c.words.length : Int) = n)) (hn : n = 0) (hj : F.job = 0) (ham : at_ = m) (hml0 : m < F.c.words.length) (hml2 : m < 4096) (hm : F.mode = 0) (hu : F.c.words.getD m 0 = u) :
    Calls Try.prog 51 #[.agg (fa bw kw be ke F), .int .i64 at_] w fun x w' => x = .returned (.tuple #[.int .u32 u, .int .i64 0]) ∧ Below w.heap.size w w' := by
  subst ham
  have hml : (m : Int) < (F.c.words.length : Int) := by omega
  have hm4 : (m : Int) < 4096 := by omega
  have hb := one_box w bw kw be ke F
  have B := alloc1_below w (.cells (fa bw kw be ke F) 62)
  go_enter Try.func51, Try.ntmps51
  go_upto_region 1 with (fail)
  generalize w.alloc (.cells (fa bw kw be ke F) 62) = W at *
  go_upto_region 2 with (first | (refine load_f rfl _ rfl rfl hb ?_) | (go_at_call 65; refine (wrong_c q1).mono ?_; rintro x w1 ⟨rfl, b1⟩; replace hb := hb.below b1; replace B := Below.then B b1; clear b1))
  obtain ⟨x0, x1, x2, x3, x4, x5, x6, x7, x8, x73, x74, x75, x76, xf⟩ := hb.cells
  have hw := Sl.below_cell B (h.words.cell hml0)
  rw [hu] at hw
  go_wp2
  go_ret2
  exact ⟨rfl, B⟩
set_option maxHeartbeats 1000000 in
set_option maxRecDepth 100000 in
theorem read4_c {w : World} {bw kw be ke m : Nat} {F : RF} {at_ n : Int} {lk : Bool} {u : Int} (h : Rnor.RAt w bw kw be ke F.c) (he : 0 ≤ F.errs ∧ F.errs ≤ 50) (q1 : Hid (Nr.wrong F.c at_ (F.c.words.length : Int) = n)) (hn : n = 0) (hj : F.job = 0) (ham : at_ = m) (hml0 : m < F.c.words.length) (hml2 : m < 4096) (hm : F.mode = 2) (h0 : (m : Int) % 64 = 0) :
    Calls Try.prog 51 #[.agg (fa bw kw be ke F), .int .i64 at_] w fun x w' => x = .returned (.tuple #[.int .u32 137, .int .i64 0]) ∧ Below w.heap.size w w' := by
  subst ham
  have hml : (m : Int) < (F.c.words.length : Int) := by omega
  have hm4 : (m : Int) < 4096 := by omega
  have hb := one_box w bw kw be ke F
  have B := alloc1_below w (.cells (fa bw kw be ke F) 62)
  go_enter Try.func51, Try.ntmps51
  go_upto_region 1 with (fail)
  generalize w.alloc (.cells (fa bw kw be ke F) 62) = W at *
  go_upto_region 2 with (first | (refine load_f rfl _ rfl rfl hb ?_) | (go_at_call 65; refine (wrong_c q1).mono ?_; rintro x w1 ⟨rfl, b1⟩; replace hb := hb.below b1; replace B := Below.then B b1; clear b1))
  obtain ⟨x0, x1, x2, x3, x4, x5, x6, x7, x8, x73, x74, x75, x76, xf⟩ := hb.cells
  go_wp2
  go_ret2
  exact ⟨rfl, B⟩
set_option maxHeartbeats 1000000 in
set_option maxRecDepth 100000 in
theorem read5_c {w : World} {bw kw be ke m : Nat} {F : RF} {at_ n : Int} {lk : Bool} {u : Int} (h : Rnor.RAt w bw kw be ke F.c) (he : 0 ≤ F.errs ∧ F.errs ≤ 50) (q1 : Hid (Nr.wrong F.c at_ (F.c.words.length : Int) = n)) (hn : n = 0) (hj : F.job = 0) (ham : at_ = m) (hml0 : m < F.c.words.length) (hml2 : m < 4096) (hm : F.mode = 2) (h0 : (m : Int) % 64 = 1) :
    Calls Try.prog 51 #[.agg (fa bw kw be ke F), .int .i64 at_] w fun x w' => x = .returned (.tuple #[.int .u32 24, .int .i64 0]) ∧ Below w.heap.size w w' := by
  subst ham
  have hml : (m : Int) < (F.c.words.length : Int) := by omega
  have hm4 : (m : Int) < 4096 := by omega
  have hb := one_box w bw kw be ke F
  have B := alloc1_below w (.cells (fa bw kw be ke F) 62)
  go_enter Try.func51, Try.ntmps51
  go_upto_region 1 with (fail)
  generalize w.alloc (.cells (fa bw kw be ke F) 62) = W at *
  go_upto_region 2 with (first | (refine load_f rfl _ rfl rfl hb ?_) | (go_at_call 65; refine (wrong_c q1).mono ?_; rintro x w1 ⟨rfl, b1⟩; replace hb := hb.below b1; replace B := Below.then B b1; clear b1))
  obtain ⟨x0, x1, x2, x3, x4, x5, x6, x7, x8, x73, x74, x75, x76, xf⟩ := hb.cells
  go_wp2
  go_ret2
  exact ⟨rfl, B⟩
set_option maxHeartbeats 1000000 in
set_option maxRecDepth 100000 in
theorem read6_c {w : World} {bw kw be ke m : Nat} {F : RF} {at_ n : Int} {lk : Bool} {u : Int} (h : Rnor.RAt w bw kw be ke F.c) (he : 0 ≤ F.errs ∧ F.errs ≤ 50) (q1 : Hid (Nr.wrong F.c at_ (F.c.words.length : Int) = n)) (hn : n = 0) (hj : F.job = 0) (ham : at_ = m) (hml0 : m < F.c.words.length) (hml2 : m < 4096) (hm : F.mode = 2) (h0 : (m : Int) % 64 = 2) (hl : F.locks (m / 64) = true) :
    Calls Try.prog 51 #[.agg (fa bw kw be ke F), .int .i64 at_] w fun x w' => x = .returned (.tuple #[.int .u32 1, .int .i64 0]) ∧ Below w.heap.size w w' := by
  subst ham
  have hml : (m : Int) < (F.c.words.length : Int) := by omega
  have hm4 : (m : Int) < 4096 := by omega
  have hmi : m / 64 < 64 := by omega
  have hmi2 : (m : Int) / 64 < 64 := by omega
  have hmi3 : 0 ≤ (m : Int) / 64 := by omega
  have hb := one_box w bw kw be ke F
  have B := alloc1_below w (.cells (fa bw kw be ke F) 62)
  go_enter Try.func51, Try.ntmps51
  go_upto_region 1 with (fail)
  generalize w.alloc (.cells (fa bw kw be ke F) 62) = W at *
  go_upto_region 2 with (first | (refine load_f rfl _ rfl rfl hb ?_) | (go_at_call 65; refine (wrong_c q1).mono ?_; rintro x w1 ⟨rfl, b1⟩; replace hb := hb.below b1; replace B := Below.then B b1; clear b1))
  obtain ⟨x0, x1, x2, x3, x4, x5, x6, x7, x8, x73, x74, x75, x76, xf⟩ := hb.cells
  have xl := hb.lock hmi
  rw [hl] at xl
  go_wp2
  go_ret2
  exact ⟨rfl, B⟩
set_option maxHeartbeats 1000000 in
set_option maxRecDepth 100000 in
theorem read7_c {w : World} {bw kw be ke m : Nat} {F : RF} {at_ n : Int} {lk : Bool} {u : Int} (h : Rnor.RAt w bw kw be ke F.c) (he : 0 ≤ F.errs ∧ F.errs ≤ 50) (q1 : Hid (Nr.wrong F.c at_ (F.c.words.length : Int) = n)) (hn : n = 0) (hj : F.job = 0) (ham : at_ = m) (hml0 : m < F.c.words.length) (hml2 : m < 4096) (hm : F.mode = 2) (h0 : (m : Int) % 64 = 2) (hl : F.locks (m / 64) = false) :
    Calls Try.prog 51 #[.agg (fa bw kw be ke F), .int .i64 at_] w fun x w' => x = .returned (.tuple #[.int .u32 0, .int .i64 0]) ∧ Below w.heap.size w w' := by
  subst ham
  have hml : (m : Int) < (F.c.words.length : Int) := by omega
  have hm4 : (m : Int) < 4096 := by omega
  have hmi : m / 64 < 64 := by omega
  have hmi2 : (m : Int) / 64 < 64 := by omega
  have hmi3 : 0 ≤ (m : Int) / 64 := by omega
  have hb := one_box w bw kw be ke F
  have B := alloc1_below w (.cells (fa bw kw be ke F) 62)
  go_enter Try.func51, Try.ntmps51
  go_upto_region 1 with (fail)
  generalize w.alloc (.cells (fa bw kw be ke F) 62) = W at *
  go_upto_region 2 with (first | (refine load_f rfl _ rfl rfl hb ?_) | (go_at_call 65; refine (wrong_c q1).mono ?_; rintro x w1 ⟨rfl, b1⟩; replace hb := hb.below b1; replace B := Below.then B b1; clear b1))
  obtain ⟨x0, x1, x2, x3, x4, x5, x6, x7, x8, x73, x74, x75, x76, xf⟩ := hb.cells
  have xl := hb.lock hmi
  rw [hl] at xl
  go_wp2
  go_ret2
  exact ⟨rfl, B⟩
set_option maxHeartbeats 1000000 in
set_option maxRecDepth 100000 in
theorem read8_c {w : World} {bw kw be ke m : Nat} {F : RF} {at_ n : Int} {lk : Bool} {u : Int} (h : Rnor.RAt w bw kw be ke F.c) (he : 0 ≤ F.errs ∧ F.errs ≤ 50) (q1 : Hid (Nr.wrong F.c at_ (F.c.words.length : Int) = n)) (hn : n = 0) (hj : F.job = 0) (ham : at_ = m) (hml0 : m < F.c.words.length) (hml2 : m < 4096) (hm : F.mode = 2) (e0 : ((m : Int) % 64 == 0) = false) (e1 : ((m : Int) % 64 == 1) = false) (e2 : ((m : Int) % 64 == 2) = false) :
    Calls Try.prog 51 #[.agg (fa bw kw be ke F), .int .i64 at_] w fun x w' => x = .returned (.tuple #[.int .u32 0, .int .i64 0]) ∧ Below w.heap.size w w' := by
  subst ham
  have hml : (m : Int) < (F.c.words.length : Int) := by omega
  have hm4 : (m : Int) < 4096 := by omega
  have hb := one_box w bw kw be ke F
  have B := alloc1_below w (.cells (fa bw kw be ke F) 62)
  go_enter Try.func51, Try.ntmps51
  go_upto_region 1 with (fail)
  generalize w.alloc (.cells (fa bw kw be ke F) 62) = W at *
  go_upto_region 2 with (first | (refine load_f rfl _ rfl rfl hb ?_) | (go_at_call 65; refine (wrong_c q1).mono ?_; rintro x w1 ⟨rfl, b1⟩; replace hb := hb.below b1; replace B := Below.then B b1; clear b1))
  obtain ⟨x0, x1, x2, x3, x4, x5, x6, x7, x8, x73, x74, x75, x76, xf⟩ := hb.cells
  go_wp2
  go_ret2
  exact ⟨rfl, B⟩
set_option maxHeartbeats 1000000 in
set_option maxRecDepth 100000 in
theorem read13_c {w : World} {bw kw be ke m : Nat} {F : RF} {at_ n : Int} {lk : Bool} {u : Int} (h : Rnor.RAt w bw kw be ke F.c) (he : 0 ≤ F.errs ∧ F.errs ≤ 50) (q1 : Hid (Nr.wrong F.c at_ (F.c.words.length : Int) = n)) (hn : n = 0) (hj : F.job = 0) (ham : at_ = m) (hml0 : m < F.c.words.length) (hml2 : m < 4096) (hm : F.mode = 3) (h0 : (m : Int) < 16) :
    Calls Try.prog 51 #[.agg (fa bw kw be ke F), .int .i64 at_] w fun x w' => x = .returned (.tuple #[.int .u32 0, .int .i64 0]) ∧ Below w.heap.size w w' := by
  subst ham
  have hml : (m : Int) < (F.c.words.length : Int) := by omega
  have hm4 : (m : Int) < 4096 := by omega
  have hb := one_box w bw kw be ke F
  have B := alloc1_below w (.cells (fa bw kw be ke F) 62)
  go_enter Try.func51, Try.ntmps51
  go_upto_region 1 with (fail)
  generalize w.alloc (.cells (fa bw kw be ke F) 62) = W at *
  go_upto_region 2 with (first | (refine load_f rfl _ rfl rfl hb ?_) | (go_at_call 65; refine (wrong_c q1).mono ?_; rintro x w1 ⟨rfl, b1⟩; replace hb := hb.below b1; replace B := Below.then B b1; clear b1))
  obtain ⟨x0, x1, x2, x3, x4, x5, x6, x7, x8, x73, x74, x75, x76, xf⟩ := hb.cells
  have h44 : ((m : Int) == 44) = false := by rw [beq_eq_false_iff_ne]; omega
  go_wp2
  go_ret2
  exact ⟨rfl, B⟩
set_option maxHeartbeats 1000000 in
set_option maxRecDepth 100000 in
theorem read14_c {w : World} {bw kw be ke m : Nat} {F : RF} {at_ n : Int} {lk : Bool} {u : Int} (h : Rnor.RAt w bw kw be ke F.c) (he : 0 ≤ F.errs ∧ F.errs ≤ 50) (q1 : Hid (Nr.wrong F.c at_ (F.c.words.length : Int) = n)) (hn : n = 0) (hj : F.job = 0) (ham : at_ = m) (hml0 : m < F.c.words.length) (hml2 : m < 4096) (hm : F.mode = 3) (h0 : (18 : Int) < (m : Int)) (h44 : ((m : Int) == 44) = false) :
    Calls Try.prog 51 #[.agg (fa bw kw be ke F), .int .i64 at_] w fun x w' => x = .returned (.tuple #[.int .u32 0, .int .i64 0]) ∧ Below w.heap.size w w' := by
  subst ham
  have hml : (m : Int) < (F.c.words.length : Int) := by omega
  have hm4 : (m : Int) < 4096 := by omega
  have hb := one_box w bw kw be ke F
  have B := alloc1_below w (.cells (fa bw kw be ke F) 62)
  go_enter Try.func51, Try.ntmps51
  go_upto_region 1 with (fail)
  generalize w.alloc (.cells (fa bw kw be ke F) 62) = W at *
  go_upto_region 2 with (first | (refine load_f rfl _ rfl rfl hb ?_) | (go_at_call 65; refine (wrong_c q1).mono ?_; rintro x w1 ⟨rfl, b1⟩; replace hb := hb.below b1; replace B := Below.then B b1; clear b1))
  obtain ⟨x0, x1, x2, x3, x4, x5, x6, x7, x8, x73, x74, x75, x76, xf⟩ := hb.cells
  go_wp2
  go_ret2
  exact ⟨rfl, B⟩
end Rcfi
end Go.Proofs.Ytfghlfolejpjjaa

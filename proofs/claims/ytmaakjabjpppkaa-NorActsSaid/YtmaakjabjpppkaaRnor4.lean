/- The reference's chip: Program. -/
import Derived.Test.YtmaakjabjpppkaaRnor3
namespace Go.Proofs.Ytmaakjabjpppkaa
open Go.RowKit
set_option linter.unusedVariables false
attribute [local go_sem] max2_int min2_int max_two min_two
namespace Rnor
theorem wrong_e {w : World} {bw kw be ke : Nat} {c : Nr.C} (h : c.ok) {at_ many n : Int} (q : Hid (Nr.wrong c at_ many = n)) :
    Calls Try.prog 42 #[rv bw kw be ke c, .int .i64 at_, .int .i64 many] w fun e w' => e = .returned (.int .i64 n) ∧ Below w.heap.size w w' := by
  rw [← q.out]; exact wrong_c h at_ many
theorem burnt_e {w : World} {bw kw be ke : Nat} {c : Nr.C} (h : c.ok) (ho : c.off = false) {f : Int} {b : Bool} (q1 : Hid (max (c.fuse - 1) 0 = f)) (q2 : Hid (decide (c.fuse = 1) = b)) :
    Calls Try.prog 43 #[rv bw kw be ke c] w fun e w' => e = .returned (.tuple #[rv bw kw be ke { c with fuse := f, off := b }, .bool b]) ∧ Below w.heap.size w w' := by
  rw [← q1.out, ← q2.out]; exact burnt_c h ho
theorem program_eq {c : Nr.C} {m : Nat} {v x f u : Int} {b : Bool} (hm : m < c.words.length) (hx : c.words.getD m 0 = x) (q1 : Hid (max (c.fuse - 1) 0 = f)) (q2 : Hid (decide (c.fuse = 1) = b)) (hu : Hid (u = if b = true then Bt.part x (bits .and .u32 x v) (Bt.turn c.pick 0) else bits .and .u32 x v)) :
    Nr.program c m v = { c with words := c.words.set m u, fuse := f, off := b } := by
  have hs := Nr.changed_succ (fun w => bits .and .u32 w v) b c.pick m 0 c.words hm
  rw [Nat.add_zero, Nr.changed_zero, hx] at hs
  rw [hu.out, ← q1.out]
  simp only [Nr.program, Nr.change, q2.out, Int.toNat_natCast]
  rw [← hs]
  rfl
theorem burnt_ok {c : Nr.C} {f : Int} {b : Bool} (h : c.ok) (q1 : Hid (max (c.fuse - 1) 0 = f)) : ({ c with fuse := f, off := b } : Nr.C).ok := by
  have f1 := h.fuse_lo
  have f2 := h.fuse_hi
  have := q1.out
  exact ⟨h.size, h.some_, h.most, h.words_lo, h.words_hi, h.wear_lo, h.wear_hi, h.endure_lo, h.endure_hi, by simp only []; omega, by simp only []; omega, h.pick_lo, h.pick_hi⟩
theorem rv_eq (bw kw be ke : Nat) (c : Nr.C) : rv bw kw be ke c = .agg #[.slice (some ⟨bw, 0, none⟩) c.words.length kw, .slice (some ⟨be, 0, none⟩) c.wear.length ke, .int .i64 c.endure, .int .i64 c.fuse, .int .u32 c.pick, .bool c.off] := rfl
set_option maxHeartbeats 1000000 in
set_option maxRecDepth 100000 in
theorem program_bad {w : World} {bw kw be ke : Nat} {c : Nr.C} (h : RAt w bw kw be ke c) (at_ v : Int) {n : Int} (q : Hid (Nr.wrong c at_ (c.words.length : Int) = n)) (hn : (n == 0) = false) :
    Calls Try.prog 38 #[rv bw kw be ke c, .int .i64 at_, .int .u32 v] w fun e w' => e = .returned (.tuple #[rv bw kw be ke c, .int .i64 n]) ∧ Below w.heap.size w w' := by
  have hW := fun W : World => wrong_e (w := W) (bw := bw) (kw := kw) (be := be) (ke := ke) h.ok q
  have hn2 : (n != 0) = true := by simpa using hn
  unfold rv at *
  go_enter Try.func38, Try.ntmps38
  go_wp2_with (go_at_call 42; refine (hW _).mono ?_; rintro e w1 ⟨rfl, b1⟩; clear hW; obtain ⟨e0, e1, B⟩ := alloc2_then b1; clear b1; have E1 := Lib.hid e1; obtain ⟨x0, x1, x2, x3, x4, x5, xf⟩ := cells6 e0; obtain ⟨y0, y1, y2, y3, y4, y5, yf⟩ := cells6 e1; clear e0 e1)
  refine bodyPost_ret (retC2 rfl _ _ (w.heap.size + 1) _ _ rfl rfl (put6 E1.out _ _ _ _ _ _) rfl) rfl ⟨rfl, put6_below B (by omega) _ _ _ _ _ _⟩
set_option maxHeartbeats 400000 in
set_option maxRecDepth 100000 in
theorem program_good {w : World} {bw kw be ke m : Nat} {c : Nr.C} (h : RAt w bw kw be ke c) (hm : m < c.words.length) {v : Int} (hv : 0 ≤ v ∧ v < 4294967296) (q : Hid (Nr.wrong c (m : Int) (c.words.length : Int) = 0)) (ho : Hid (c.off = false)) {c' : Nr.C} {n : Int} (q3 : Hid (Nr.program c m v = c')) (q4 : Hid (Nr.ended c = n)) :
    Calls Try.prog 38 #[rv bw kw be ke c, .int .i64 m, .int .u32 v] w fun e w' => ∃ a kap, e = .returned (.tuple #[rv a kap be ke c', .int .i64 n]) ∧ RAt w' a kap be ke c' ∧ w.heap.size ≤ a ∧ Below w.heap.size w w' := by
  have hW := fun W : World => wrong_e (w := W) (bw := bw) (kw := kw) (be := be) (ke := ke) h.ok q
  obtain ⟨f, q1⟩ : ∃ f, Hid (max (c.fuse - 1) 0 = f) := ⟨_, Lib.hid rfl⟩
  obtain ⟨b, q2⟩ : ∃ b, Hid (decide (c.fuse = 1) = b) := ⟨_, Lib.hid rfl⟩
  have hB := fun W : World => burnt_e (w := W) (bw := bw) (kw := kw) (be := be) (ke := ke) h.ok ho.out q1 q2
  unfold rv at *
  go_enter Try.func38, Try.ntmps38
  go_wp2_with (first | (go_at_call 42; refine (hW _).mono ?_; rintro e w1 ⟨rfl, b1⟩; clear hW; obtain ⟨e0, e1, B⟩ := alloc2_then b1; clear b1; have E1 := Lib.hid e1; have E0 := Lib.hid e0; obtain ⟨x0, x1, x2, x3, x4, x5, xf⟩ := cells6 e0; clear e0 e1) | (go_at_call 43; refine (hB _).mono ?_; rintro e w2 ⟨rfl, b2⟩; clear hB; replace E1 := Lib.hid ((b2.block _ (Array.getElem?_eq_some_iff.1 E1.out).1).trans E1.out); replace E0 := Lib.hid ((b2.block _ (Array.getElem?_eq_some_iff.1 E0.out).1).trans E0.out); replace B := Below.then B b2; clear b2 x0 x1 x2 x3 x4 x5 xf; obtain ⟨x0, x1, x2, x3, x4, x5, xf⟩ := cells6 E0.out))
  have hcw : w2.cell? ⟨bw, m, none⟩ = some (.int .u32 (c.words.getD m 0)) := Sl.below_cell B (h.words.cell hm)
  have hbl := h.words.lt
  have r1 := h.ok.words_lo m
  have r2 := h.ok.words_hi m
  have hs2 := B.size
  have lt1 := (Array.getElem?_eq_some_iff.1 E1.out).1
  obtain ⟨W, hWe⟩ : ∃ W, W = ((((((w2.setCell ⟨w.heap.size, 0, none⟩ (.slice (some ⟨bw, 0, none⟩) c.words.length kw)).setCell ⟨w.heap.size, 1, none⟩ (.slice (some ⟨be, 0, none⟩) c.wear.length ke)).setCell ⟨w.heap.size, 2, none⟩ (.int .i64 c.endure)).setCell ⟨w.heap.size, 3, none⟩ (.int .i64 f)).setCell ⟨w.heap.size, 4, none⟩ (.int .u32 c.pick)).setCell ⟨w.heap.size, 5, none⟩ (.bool b)) := ⟨_, rfl⟩
  have F0 := put6 E0.out (.slice (some ⟨bw, 0, none⟩) c.words.length kw) (.slice (some ⟨be, 0, none⟩) c.wear.length ke) (.int .i64 c.endure) (.int .i64 f) (.int .u32 c.pick) (.bool b)
  have F1 := (put6_away (r := w.heap.size) (g := w.heap.size + 1) (w := w2) (by omega) (.slice (some ⟨bw, 0, none⟩) c.words.length kw) (.slice (some ⟨be, 0, none⟩) c.wear.length ke) (.int .i64 c.endure) (.int .i64 f) (.int .u32 c.pick) (.bool b)).trans E1.out
  have FB := put6_below B (Nat.le_refl _) (.slice (some ⟨bw, 0, none⟩) c.words.length kw) (.slice (some ⟨be, 0, none⟩) c.wear.length ke) (.int .i64 c.endure) (.int .i64 f) (.int .u32 c.pick) (.bool b)
  rw [← hWe] at F0 F1 FB ⊢
  clear hWe x0 x1 x2 x3 x4 x5 xf E0 E1 hcw B hs2 lt1
  have hcw : W.cell? ⟨bw, m, none⟩ = some (.int .u32 (c.words.getD m 0)) := Sl.below_cell FB (h.words.cell hm)
  have G0 := Lib.hid F0
  have G1 := Lib.hid F1
  obtain ⟨x0, x1, x2, x3, x4, x5, xf⟩ := cells6 F0
  clear F0 F1
  have HB := Lib.hid FB
  clear FB
  generalize hx : c.words.getD m 0 = x at *
  go_loop [10, 11] (fun n i => ∃ k : Nat, k ≤ 32 ∧ i = .int .i64 k ∧ n = .int .u32 (Nr.andN k x v)) (fun _ i => 32 - (intOf i).toNat)
  case atStart => exact ⟨0, Nat.zero_le _, rfl, by rw [Nr.andN_zero]⟩
  case round =>
    obtain ⟨k, hk, rfl, rfl⟩ := hrel
    by_cases h2 : k < 32
    · have h3 : (k : Int) < 32 := by omega
      have hs := Lib.hid (Nr.andN_succ x v h2)
      have hr := Nr.mul_rng x v k
      have hA := Nr.andN_rng k x v
      have hwp : IntKind.u32.wrap (Bt.field x k 1 * Bt.field v k 1) = Bt.field x k 1 * Bt.field v k 1 := by rw [IntKind.wrap_u32]; omega
      go_wp2_with (first | (go_at_call_of 48 (Value.int IntKind.u32 x); refine (Ref1.field_c _ _ _ _ r1 r2 (Lib.hid (by omega))).mono ?_; rintro e w' ⟨rfl, rfl⟩) | (go_at_call 48; refine (Ref1.field_c _ _ _ _ hv.1 hv.2 (Lib.hid (by omega))).mono ?_; rintro e w' ⟨rfl, rfl⟩) | (go_at_call 47; refine (Ref1.put_c _ _ _ _ _ hA.1 hA.2 hr.1 (by omega) (Lib.hid (by omega))).mono ?_; rintro e w' ⟨rfl, rfl⟩))
      go_round
      case rel => exact ⟨k + 1, by omega, by go_num, by rw [hs.out]⟩
      case measure => simp [intOf]; omega
    · obtain rfl : k = 32 := by omega
      have hen := Nr.andN_end r1 r2 hv.1 hv.2
      have hR := Nr.andN_rng 32 x v
      generalize Nr.andN 32 x v = A at hen hR ⊢
      obtain ⟨u, hu⟩ : ∃ u, Hid (u = if b = true then Bt.part x A c.pick else A) := ⟨_, Lib.hid rfl⟩
      have hRA : RAt W bw kw be ke { c with fuse := f, off := b } := RAt.below (w := w) ⟨burnt_ok h.ok q1, h.kw, h.ke, h.words, h.wear⟩ HB.out
      have hch := change_c (u := u) hRA hm A c.pick b hR ⟨h.ok.pick_lo, h.ok.pick_hi⟩ (Lib.hid (by show u = if b = true then Bt.part (c.words.getD m 0) A c.pick else A; rw [hx]; exact hu.out))
      have HC : Hid (c' = { c with words := c.words.set m u, fuse := f, off := b }) := Lib.hid (by
        rw [← q3.out]
        refine program_eq hm hx q1 q2 (Lib.hid ?_)
        rw [Nr.turn_0 h.ok.pick_lo h.ok.pick_hi, ← hen]
        exact hu.out)
      have HN : Hid ((if b = true then (4 : Int) else 0) = n) := Lib.hid (by rw [← q4.out, ← q2.out]; simp [Nr.ended])
      have HO : Hid c'.ok := Lib.hid (by rw [← q3.out]; exact Nr.program_ok h.ok _ hv.1 hv.2)
      have HH := Lib.hid hRA
      clear hRA hen hx
      unfold rv at hch
      go_wp2_with (first | (go_at_call 44; refine hch.mono ?_; rintro e w3 ⟨a, kap, rfl, p1, p2, p3, p4⟩; clear hch; have E3 := Lib.hid ((p4.block _ (Array.getElem?_eq_some_iff.1 G1.out).1).trans G1.out); obtain ⟨y0, y1, y2, y3, y4, y5, yf⟩ := cells6 E3.out) | (go_at_call 46; refine (end_c _ b).mono ?_; rintro e w4 ⟨rfl, rfl⟩; rw [HN.out]))
      have LW := (Array.getElem?_eq_some_iff.1 G1.out).1
      have L3 := p4.size
      have BB := Below.then HB.out p4
      have hc' := HC.out
      have ho' := HO.out
      clear HC HO q3
      subst hc'
      refine bodyPost_ret (retC2 rfl _ _ (w.heap.size + 1) _ _ rfl rfl (put6 E3.out _ _ _ _ _ _) rfl) rfl ⟨a, kap, ?_, ⟨ho', ?_, h.ke, ?_, ?_⟩, by omega, ?_⟩
      · simp only [List.length_set]
        rfl
      · simpa using p2
      · obtain ⟨cur, ea, hc⟩ := p1
        exact ⟨cur, (put6_away (by omega) _ _ _ _ _ _).trans ea, hc⟩
      · exact h.wear.below (put6_below BB (by omega) _ _ _ _ _ _)
      · exact put6_below BB (by omega) _ _ _ _ _ _
end Rnor
end Go.Proofs.Ytmaakjabjpppkaa

/- The parts: Rnor8 Rnor9 Rnor10 Rnor11. -/
import Derived.Test.YtfghlfolejpjjaaRA
import Derived.StillTailTactics
import Derived.IntWalk
import Derived.Test.YtfghlfolejpjjaaOf
import Derived.Deep.RegionLaw
import Derived.Test.YtfghlfolejpjjaaNew
/- The reference's chip: Erase that is done. -/
namespace Go.Proofs.Ytfghlfolejpjjaa
open Go.RowKit
set_option linter.unusedVariables false
attribute [local go_sem] max2_int min2_int max_two min_two
namespace Rnor
theorem under_i : Try.prog.underlying 56 = some (.slice 3) := by kernel_rfl
theorem info_i : (Try.prog.info? 3).map (fun i => (i.zero, i.size, i.bytes)) = some (some (.int .i64 0), 1, 8) := by kernel_rfl
/-- Numbers behind one another are appended to a row of the call's own. -/
theorem append_i {w : World} {ops : Array Oper} {rest : List Oper} {o : Oper} {a : Act} {Q : Exit → Act → World → Prop} (hgd : Region.wanted o (yielded ops a.tmps) = true) (s x : Operand)
    (ho : o.op = .call { callee := .builtin .append, args := #[s, x], argTypes := #[56, 56] })
    (base : Nat) (v : Value) (n : Nat) (xs : List Int) (hs : a.eval s = v) (hown : w.ownsRow base 3 1 v n (xs.map (Value.int .i64)))
    {b off m c : Nat} {zs : List Int} (hx : a.eval x = .slice (some ⟨b, off, none⟩) m c) (hl : zs.length = m) (hc : ∀ i, i < m → w.cell? ⟨b, off + i, none⟩ = some (.int .i64 (zs.getD i 0))) (hbig : n + m ≤ 100000) (hbase : base ≤ w.heap.size)
    (h : ∀ v' w', w'.ownsRow base 3 1 v' (n + m) ((xs ++ zs).map (Value.int .i64)) → w.grownBy w' v.ownBlock → wpList Try.prog ops Q rest (a.put o.dst v') w') : wpList Try.prog ops Q (o :: rest) a w := by
  obtain ⟨i0, hi, hz0, hz1, hz2⟩ := info_parts info_i
  refine wpList_step fun K hK => ?_
  rw [if_pos hgd]
  refine wp_append_own w s x _ ho base 3 i0 (.int .i64 0) 1 8 under_i hi hz0 hz1 hz2 rfl (by decide) v n _ hs hown ⟨b, off, none⟩ m c (zs.map (Value.int .i64)) hx (by simp [hl]) ?_ ?_ (by unfold maxLen; omega) (by omega) hbase ?_
  · intro j u hj
    have hjn : j < zs.length := by
      have := (List.getElem?_eq_some_iff.1 hj).1
      simpa using this
    rw [Addr.add_lit, hc j (by omega)]
    have e : (zs.map (Value.int .i64))[j]? = some (Value.int .i64 (zs.getD j 0)) := by simp [List.getD, hjn]
    rw [e] at hj
    exact hj
  · intro u hu; obtain ⟨x, _, rfl⟩ := List.mem_map.1 hu; rfl
  · intro v' w' h1 h2 _
    exact hK _ _ (h v' w' (by simpa using h1) h2)
theorem row_i {w : World} {B n : Nat} {v : Value} {zs : List Int} (h : w.ownsRow B 3 1 v n (zs.map (Value.int .i64))) (hn : 0 < n) :
    ∃ a kap, v = .slice (some ⟨a, 0, none⟩) n kap ∧ n ≤ kap ∧ B ≤ a ∧ zs.length = n ∧ IRow w a zs := by
  obtain ⟨h1, ⟨rfl, rfl⟩ | ⟨g, cap, cur, rfl, hb, hg, hc, hm, hs, ht⟩⟩ := h
  · omega
  · have hl : zs.length = n := by simpa using h1
    refine ⟨g, cap, rfl, hc, hb, hl, cur, hg, fun i hi => ?_⟩
    have e : (cur.toList.take (n * 1))[i]? = (zs.map (Value.int .i64))[i]? := by rw [ht]
    rw [List.getElem?_take, if_pos (by omega), List.getElem?_map, List.getElem?_eq_getElem hi] at e
    rw [← Array.getElem?_toList, e]
    simp [List.getD, hi]
theorem IRow.set {w : World} {a i : Nat} {zs : List Int} (h : IRow w a zs) (hi : i < zs.length) (v : Int) : IRow (w.setCell ⟨a, i, none⟩ (.int .i64 v)) a (zs.set i v) := by
  obtain ⟨cur, e, hc⟩ := h
  refine ⟨cur.setIfInBounds i (.int .i64 v), heap_set e i _, fun j hj => ?_⟩
  have hj' : j < zs.length := by simpa using hj
  rw [Nr.getD_set, Array.getElem?_setIfInBounds]
  by_cases d : i = j
  · subst d
    have := hc i hi
    have hs : i < cur.size := (Array.getElem?_eq_some_iff.1 this).1
    rw [if_pos rfl, if_pos hs, if_pos ⟨rfl, hi⟩]
  · rw [if_neg d, if_neg (by simp [d])]
    exact hc j hj'
theorem IRow.free {w : World} {a : Nat} {zs : List Int} (h : IRow w a zs) (i : Nat) : w.frozen? ⟨a, i, none⟩ = false := by
  obtain ⟨cur, e, hc⟩ := h
  simp only [World.frozen?, e]
  simp
theorem drew_heap {w : World} {r : Nat} {o : Option Obj} (h : w.heap[r]? = o) : w.drew.heap[r]? = o := h
/-- The box of the row that is worked on. -/
def box (w : World) (r bw kw be ke : Nat) (c : Nr.C) : Prop := w.heap[r]? = some (.cells #[.slice (some ⟨bw, 0, none⟩) c.words.length kw, .slice (some ⟨be, 0, none⟩) c.wear.length ke, .int .i64 c.endure, .int .i64 c.fuse, .int .u32 c.pick, .bool c.off] 58 (0, 0))
theorem erase_eq {c : Nr.C} {m : Nat} {x f : Int} {b : Bool} (hx : c.wear.getD m 0 = x) (q1 : Hid (max (c.fuse - 1) 0 = f)) (q2 : Hid (decide (c.fuse = 1) = b)) :
    Nr.erase c m = { c with words := Nr.changed (fun _ => 4294967295) b c.pick (m * 64) 64 c.words, wear := c.wear.set m (x + 1), fuse := f, off := b } := by
  subst hx
  rw [← q1.out, ← q2.out]
  rfl
theorem mid_ok {c : Nr.C} {f : Int} {b : Bool} {zs : List Int} {at_ k : Nat} (h : c.ok) (q1 : Hid (max (c.fuse - 1) 0 = f)) (hz : Hid (Nr.changed (fun _ => 4294967295) b c.pick at_ k c.words = zs)) : ({ c with words := zs, fuse := f, off := b } : Nr.C).ok := by
  have o := burnt_ok (b := b) h q1
  have r := fun i => Nr.changed_rng (burns := b) (pick := c.pick) (at_ := at_) (k := k) (to := fun _ => 4294967295) (fun i => ⟨h.words_lo i, h.words_hi i⟩) (fun w _ _ => by decide) i
  have hl := Nr.length_changed (fun _ => 4294967295) b c.pick at_ k c.words
  rw [hz.out] at r hl
  exact ⟨hl.trans h.size, h.some_, h.most, fun i => (r i).1, fun i => (r i).2, h.wear_lo, h.wear_hi, h.endure_lo, h.endure_hi, o.fuse_lo, o.fuse_hi, h.pick_lo, h.pick_hi⟩
/-- Where the loop has come to. -/
structure Mid (w wr : World) (be ke m : Nat) (c : Nr.C) (f : Int) (b : Bool) (k a kap : Nat) (zs : List Int) : Prop where
  len : zs.length = c.words.length
  cap : c.words.length ≤ kap
  row : Row wr a zs
  eq : Hid (Nr.changed (fun _ => 4294967295) b c.pick (m * 64) k c.words = zs)
  box : wr.heap[w.heap.size]? = some (.cells #[.slice (some ⟨a, 0, none⟩) c.words.length kap, .slice (some ⟨be, 0, none⟩) c.wear.length ke, .int .i64 c.endure, .int .i64 f, .int .u32 c.pick, .bool b] 58 (0, 0))
  box2 : Hid (wr.heap[w.heap.size + 1]? = some (.cells #[.slice none 0 0, .slice none 0 0, .int .i64 0, .int .i64 0, .int .u32 0, .bool false] 58 (0, 0)))
  below : Below w.heap.size w wr
  new : 0 < k → w.heap.size ≤ a
theorem Mid.drew {w wr : World} {be ke m : Nat} {c : Nr.C} {f : Int} {b : Bool} {k a kap : Nat} {zs : List Int} (h : Mid w wr be ke m c f b k a kap zs) : Mid w wr.drew be ke m c f b k a kap zs := ⟨h.len, h.cap, h.row, h.eq, h.box, h.box2, drew_below h.below, h.new⟩
theorem Mid.next {w wr w3 : World} {be ke m : Nat} {c : Nr.C} {f : Int} {b : Bool} {k a kap a' kap' : Nat} {zs zs' : List Int} (h : Mid w wr be ke m c f b k a kap zs) (p1 : Below wr.heap.size wr w3) (p2 : Row w3 a' zs') (p3 : zs'.length = c.words.length) (p4 : c.words.length ≤ kap') (p5 : wr.heap.size ≤ a') (p6 : Hid (Nr.changed (fun _ => 4294967295) b c.pick (m * 64) (k + 1) c.words = zs')) :
    Mid w ((((((w3.setCell ⟨w.heap.size, 0, none⟩ (.slice (some ⟨a', 0, none⟩) c.words.length kap')).setCell ⟨w.heap.size, 1, none⟩ (.slice (some ⟨be, 0, none⟩) c.wear.length ke)).setCell ⟨w.heap.size, 2, none⟩ (.int .i64 c.endure)).setCell ⟨w.heap.size, 3, none⟩ (.int .i64 f)).setCell ⟨w.heap.size, 4, none⟩ (.int .u32 c.pick)).setCell ⟨w.heap.size, 5, none⟩ (.bool b)) be ke m c f b (k + 1) a' kap' zs' := by
  have e3 := (p1.block _ (Array.getElem?_eq_some_iff.1 h.box).1).trans h.box
  have e4 := (p1.block _ (Array.getElem?_eq_some_iff.1 h.box2.out).1).trans h.box2.out
  have l2 := (Array.getElem?_eq_some_iff.1 h.box2.out).1
  have hs := h.below.size
  refine ⟨p3, p4, ?_, p6, put6 e3 _ _ _ _ _ _, Lib.hid ((put6_away (by omega) _ _ _ _ _ _).trans e4), put6_below (Below.then h.below p1) (Nat.le_refl _) _ _ _ _ _ _, fun _ => by omega⟩
  obtain ⟨cur, ea, hc⟩ := p2
  exact ⟨cur, (put6_away (by omega) _ _ _ _ _ _).trans ea, hc⟩
theorem change_mid {w wr : World} {be ke bw kw m : Nat} {c : Nr.C} {f : Int} {b : Bool} {k a kap : Nat} {zs : List Int} (h : RAt w bw kw be ke c) (hm : m < c.wear.length) (q1 : Hid (max (c.fuse - 1) 0 = f)) (hM : Mid w wr be ke m c f b k a kap zs) (hk : k < 64) :
    Calls Try.prog 81 #[.agg #[.slice (some ⟨a, 0, none⟩) c.words.length kap, .slice (some ⟨be, 0, none⟩) c.wear.length ke, .int .i64 c.endure, .int .i64 f, .int .u32 c.pick, .bool b], .int .i64 ((m * 64 + k : Nat) : Int), .int .u32 4294967295, .bool b, .int .u32 (Bt.turn c.pick k)] wr fun e w' =>
      ∃ a' kap' zs', e = .returned (.agg #[.slice (some ⟨a', 0, none⟩) c.words.length kap', .slice (some ⟨be, 0, none⟩) c.wear.length ke, .int .i64 c.endure, .int .i64 f, .int .u32 c.pick, .bool b]) ∧ Below wr.heap.size wr w' ∧ Row w' a' zs' ∧ zs'.length = c.words.length ∧ c.words.length ≤ kap' ∧ wr.heap.size ≤ a' ∧ Hid (Nr.changed (fun _ => 4294967295) b c.pick (m * 64) (k + 1) c.words = zs') := by
  have hs := h.ok.size
  have hl := hM.len
  have hR : RAt wr a kap be ke { c with words := zs, fuse := f, off := b } := ⟨mid_ok h.ok q1 hM.eq, by rw [hl]; exact hM.cap, h.ke, hM.row, h.wear.below hM.below⟩
  have hx : zs.getD (m * 64 + k) 0 = c.words.getD (m * 64 + k) 0 := by
    rw [← hM.eq.out, Nr.getD_changed _ _ _ _ _ _ _ (by omega), if_neg (by omega)]
  have e := Nr.changed_succ (fun _ => 4294967295) b c.pick (m * 64) k c.words (by omega)
  rw [hM.eq.out, ← hx] at e
  have hc := change_c (u := Nr.way b c.pick k (zs.getD (m * 64 + k) 0) 4294967295) hR (m := m * 64 + k) (by show m * 64 + k < zs.length; omega) 4294967295 (Bt.turn c.pick k) b (by decide) (Bt.turn_rng _ _) (Lib.hid rfl)
  unfold rv at hc
  simp only [hl, List.length_set] at hc
  refine hc.mono ?_
  rintro e' w' ⟨a', kap', rfl, p1, p2, p3, p4⟩
  exact ⟨a', kap', _, rfl, p4, p1, by rw [List.length_set, hl], p2, p3, Lib.hid e.symm⟩
set_option maxHeartbeats 1000000 in
set_option maxRecDepth 100000 in
theorem erase_good {w : World} {bw kw be ke m : Nat} {c : Nr.C} (h : RAt w bw kw be ke c) (hm : m < c.wear.length) (q : Hid (Nr.wrong c (m : Int) (c.wear.length : Int) = 0)) (ho : Hid (c.off = false)) {x : Int} (hg : Hid (c.wear.getD m 0 = x)) (hx : x < c.endure) {c' : Nr.C} {n : Int} (q3 : Hid (Nr.erase c m = c')) (q4 : Hid (Nr.ended c = n)) :
    Calls Try.prog 72 #[rv bw kw be ke c, .int .i64 m] w fun e w' => ∃ a kap a2 kap2, e = .returned (.tuple #[rv a kap a2 kap2 c', .int .i64 n]) ∧ RAt w' a kap a2 kap2 c' ∧ w.heap.size ≤ a ∧ w.heap.size ≤ a2 ∧ Below w.heap.size w w' := by
  have hW := fun W : World => wrong_e (w := W) (bw := bw) (kw := kw) (be := be) (ke := ke) h.ok q
  obtain ⟨f, q1⟩ : ∃ f, Hid (max (c.fuse - 1) 0 = f) := ⟨_, Lib.hid rfl⟩
  obtain ⟨b, q2⟩ : ∃ b, Hid (decide (c.fuse = 1) = b) := ⟨_, Lib.hid rfl⟩
  have hB := fun W : World => burnt_e (w := W) (bw := bw) (kw := kw) (be := be) (ke := ke) h.ok ho.out q1 q2
  have CW := Lib.hid (h.wear.cell hm)
  have hm1 : (m : Int) < (c.wear.length : Int) := by omega
  rw [hg.out] at CW
  have hx0 : 0 ≤ x := by rw [← hg.out]; exact h.ok.wear_lo m
  have hwr : wrap64 (x + 1) = x + 1 := IntWalk.wrap64_in _ (by have := h.ok.endure_hi; omega)
  unfold rv at *
  go_enter Try.func72, Try.ntmps72
  go_wp2_with (go_at_call 79; refine (hW _).mono ?_; rintro e w1 ⟨rfl, b1⟩; clear hW; obtain ⟨e0, e1, B⟩ := alloc2_then b1; clear b1; have E1 := Lib.hid e1; have E0 := Lib.hid e0; obtain ⟨x0, x1, x2, x3, x4, x5, xf⟩ := cells6 e0; clear e0 e1; have cw := Sl.below_cell B CW.out)
  go_quiet (fail)
  replace E0 := Lib.hid (drewN_heap (n := nq) E0.out)
  replace E1 := Lib.hid (drewN_heap (n := nq) E1.out)
  replace B := drewN_below B nq
  go_wp2_with (first | (go_at_call 80; refine (hB _).mono ?_; rintro e w2 ⟨rfl, b2⟩; clear hB; replace E1 := Lib.hid ((b2.block _ (Array.getElem?_eq_some_iff.1 E1.out).1).trans E1.out); replace E0 := Lib.hid ((b2.block _ (Array.getElem?_eq_some_iff.1 E0.out).1).trans E0.out); replace B := Below.then B b2; clear b2 x0 x1 x2 x3 x4 x5 xf; obtain ⟨x0, x1, x2, x3, x4, x5, xf⟩ := cells6 E0.out))
  obtain ⟨W, hWe⟩ : ∃ W, W = ((((((w2.setCell ⟨w.heap.size, 0, none⟩ (.slice (some ⟨bw, 0, none⟩) c.words.length kw)).setCell ⟨w.heap.size, 1, none⟩ (.slice (some ⟨be, 0, none⟩) c.wear.length ke)).setCell ⟨w.heap.size, 2, none⟩ (.int .i64 c.endure)).setCell ⟨w.heap.size, 3, none⟩ (.int .i64 f)).setCell ⟨w.heap.size, 4, none⟩ (.int .u32 c.pick)).setCell ⟨w.heap.size, 5, none⟩ (.bool b)) := ⟨_, rfl⟩
  have F0 := put6 E0.out (.slice (some ⟨bw, 0, none⟩) c.words.length kw) (.slice (some ⟨be, 0, none⟩) c.wear.length ke) (.int .i64 c.endure) (.int .i64 f) (.int .u32 c.pick) (.bool b)
  have F1 := (put6_away (r := w.heap.size) (g := w.heap.size + 1) (w := w2) (by omega) (.slice (some ⟨bw, 0, none⟩) c.words.length kw) (.slice (some ⟨be, 0, none⟩) c.wear.length ke) (.int .i64 c.endure) (.int .i64 f) (.int .u32 c.pick) (.bool b)).trans E1.out
  have FB := put6_below B (Nat.le_refl _) (.slice (some ⟨bw, 0, none⟩) c.words.length kw) (.slice (some ⟨be, 0, none⟩) c.wear.length ke) (.int .i64 c.endure) (.int .i64 f) (.int .u32 c.pick) (.bool b)
  rw [← hWe] at F0 F1 FB ⊢
  clear hWe x0 x1 x2 x3 x4 x5 xf E0 E1 B cw
  have M0 : Mid w W be ke m c f b 0 bw kw c.words := ⟨rfl, h.kw, h.words.below FB, Lib.hid (Nr.changed_zero _ _ _ _ _), F0, Lib.hid F1, FB, fun k => absurd k (Nat.lt_irrefl _)⟩
  clear F0 F1 FB
  have HM := Lib.hid hm1
  have hm64 : (m : Int) < 64 := by have := h.ok.most; omega
  clear hm1
  go_loopw [8] (fun i wr => ∃ (k a kap : Nat) (zs : List Int), k ≤ 64 ∧ i = .int .i64 k ∧ Mid w wr be ke m c f b k a kap zs) (fun i _ => 64 - (intOf i).toNat)
  case atStart => exact ⟨0, bw, kw, c.words, Nat.zero_le _, rfl, M0⟩
  case round =>
    clear M0
    obtain ⟨k, a, kap, zs, hk, rfl, hM⟩ := hrel
    obtain ⟨x0, x1, x2, x3, x4, x5, xf⟩ := cells6 hM.box
    by_cases h2 : k < 64
    · have h3 : (k : Int) < 64 := by omega
      have hch := change_mid h hm q1 hM.drew h2
      have hT : ∀ W : World, Calls Try.prog 82 #[.int .u32 c.pick, .int .i64 k] W (fun e w' => e = .returned (.int .u32 (Bt.turn c.pick k)) ∧ w' = W) := fun W => (Ref1.turn_c _ _ W h.ok.pick_lo h.ok.pick_hi).mono fun e w' ⟨e1, e2⟩ => ⟨e1, e2.symm⟩
      have g1 : IntKind.i64.wrap ((m : Int) * 64) = (m : Int) * 64 := IntWalk.i64_in _ (by omega)
      have g2 : IntKind.i64.wrap ((m : Int) * 64 + (k : Int)) = (m : Int) * 64 + (k : Int) := IntWalk.i64_in _ (by omega)
      go_wp2
      refine wp_region_still_tail 10 (by kernel_rfl) (by kernel_rfl) ?_
      simp only [List.take_succ_cons, List.take_zero, List.drop_succ_cons, List.drop_zero]
      repeat still_step
      still_call (hT _)
      refine wpStill_nil ?_
      change wpList _ _ _ _ _ wr.drew
      clear g1 g2 hT
      go_wp2_with (go_at_call 81; rw [show ((m : Int) * 64 + (k : Int)) = ((m * 64 + k : Nat) : Int) by omega]; refine hch.mono ?_; rintro e w3 ⟨a', kap', zs', rfl, p1, p2, p3, p4, p5, p6⟩; clear hch; have P3 := Lib.hid p3; clear p3; have E3 := Lib.hid ((p1.block _ (Array.getElem?_eq_some_iff.1 hM.drew.box).1).trans hM.drew.box); obtain ⟨y0, y1, y2, y3, y4, y5, yf⟩ := cells6 E3.out)
      go_roundw
      case rel => exact ⟨k + 1, a', kap', zs', by omega, by go_num, hM.drew.next p1 p2 P3.out p4 p5 p6⟩
      case measure => simp [intOf]; omega
    · obtain rfl : k = 64 := by omega
      have l0 := hm
      have hl64 : c.wear.length ≤ 64 := h.ok.most
      have HR : IRow wr be c.wear := h.wear.below hM.below
      have HS : Hid (∀ o : Obj, ∀ i, i < c.wear.length → (wr.alloc o).cell? ⟨be, 0 + i, none⟩ = some (.int .i64 (c.wear.getD i 0))) := Lib.hid fun o i hi => by rw [Nat.zero_add]; exact Lib.cell?_alloc_some _ (HR.cell hi)
      have X1 : ∀ o : Obj, (wr.alloc o).cell? ⟨w.heap.size, 1, none⟩ = some (.slice (some ⟨be, 0, none⟩) c.wear.length ke) := fun o => Lib.cell?_alloc_some _ x1
      clear HR h2 hk
      go_wp2_with (at_builtin; refine append_i (by go_simp) _ _ rfl wr.heap.size _ 0 [] rfl (World.ownsRow_made wr #[] 0 (Nat.le_refl _) (Nat.zero_le _) rfl) (b := be) (off := 0) (m := c.wear.length) (zs := c.wear) rfl rfl (HS.out _) (by omega) (by simp) ?_; intro v1 w1 o1 g1; rw [Nat.zero_add, List.nil_append] at o1; have B1 := made_grown g1; clear g1 X1 x0 x1 x2 x3 x4 x5 xf; have B0 := B1.size; obtain ⟨a2, kap2, rfl, p1, p2, p3, p4⟩ := row_i o1 (by omega); clear p3 o1; have E0 := Lib.hid ((B1.block _ (Array.getElem?_eq_some_iff.1 hM.box).1).trans hM.box); have E1 := Lib.hid ((B1.block _ (Array.getElem?_eq_some_iff.1 hM.box2.out).1).trans hM.box2.out); obtain ⟨x0, x1, x2, x3, x4, x5, xf⟩ := cells6 E0.out; have y0 := p4.cell hm; rw [hg.out] at y0; have yf := IRow.free p4; have l2 := (Array.getElem?_eq_some_iff.1 hM.box2.out).1; have n1 : ¬ a2 = w.heap.size := (by omega); have n2 : ¬ w.heap.size = a2 := (by omega))
      have hT : ∀ W : World, Calls Try.prog 83 #[.bool b] W (fun e w' => e = .returned (.int .i64 n) ∧ w' = W) := fun W => (end_c W b).mono fun e w' ⟨e1, e2⟩ => ⟨by rw [e1, ← q4.out, ← q2.out]; simp [Nr.ended], e2.symm⟩
      have F0 := heap_set ((set_away (j := m) n2 (.int .i64 (x + 1))).trans E0.out) 1 (.slice (some ⟨a2, 0, none⟩) c.wear.length kap2)
      have F1 := (set_away (r := w.heap.size) (g := w.heap.size + 1) (j := 1) (by omega) (.slice (some ⟨a2, 0, none⟩) c.wear.length kap2)).trans ((set_away (r := a2) (g := w.heap.size + 1) (j := m) (w := w1) (by omega) (.int .i64 (x + 1))).trans E1.out)
      have FB := ((Below.then hM.below B1).setCell (p := ⟨a2, m, none⟩) (by show w.heap.size ≤ a2; omega) (.int .i64 (x + 1))).setCell (p := ⟨w.heap.size, 1, none⟩) (Nat.le_refl _) (.slice (some ⟨a2, 0, none⟩) c.wear.length kap2)
      have FI : IRow ((w1.setCell ⟨a2, m, none⟩ (.int .i64 (x + 1))).setCell ⟨w.heap.size, 1, none⟩ (.slice (some ⟨a2, 0, none⟩) c.wear.length kap2)) a2 (c.wear.set m (x + 1)) := by
        obtain ⟨cur, ea, hc⟩ := IRow.set p4 hm (x + 1)
        exact ⟨cur, (set_away n1 _).trans ea, hc⟩
      have nw : w.heap.size ≤ a := hM.new (by decide)
      have al : a < wr.heap.size := hM.row.lt
      have FR : Row ((w1.setCell ⟨a2, m, none⟩ (.int .i64 (x + 1))).setCell ⟨w.heap.size, 1, none⟩ (.slice (some ⟨a2, 0, none⟩) c.wear.length kap2)) a zs := by
        obtain ⟨cur, ea, hc⟩ := hM.row.below B1
        refine ⟨cur, (set_away ?_ _).trans ((set_away (by omega) _).trans ea), hc⟩
        intro d
        rw [d, E0.out] at ea
        cases ea
      generalize (w1.setCell ⟨a2, m, none⟩ (.int .i64 (x + 1))).setCell ⟨w.heap.size, 1, none⟩ (.slice (some ⟨a2, 0, none⟩) c.wear.length kap2) = W2 at F0 F1 FB FI FR ⊢
      have G0 := Lib.hid F0
      have G1 := Lib.hid F1
      clear E0 E1 x0 x1 x2 x3 x4 x5 xf y0 yf F1 B1
      obtain ⟨x0, x1, x2, x3, x4, x5, xf⟩ := cells6 F0
      clear F0
      refine wp_region_still_tail 3 (by kernel_rfl) (by kernel_rfl) ?_
      simp only [List.take_succ_cons, List.take_zero, List.drop_succ_cons, List.drop_zero]
      repeat still_step
      still_call (hT _)
      refine wpStill_nil ?_
      change wpList _ _ _ _ _ W2.drew
      obtain ⟨y0, y1, y2, y3, y4, y5, yf⟩ := cells6 G1.out
      clear hT
      go_wp2
      have hlen := hM.len
      have ho' : c'.ok := by rw [← q3.out]; exact Nr.erase_ok h.ok (by rw [Int.toNat_natCast, hg.out]; exact hx)
      have hc' : c' = { c with words := zs, wear := c.wear.set m (x + 1), fuse := f, off := b } := by rw [← q3.out, erase_eq hg.out q1 q2, hM.eq.out]
      have hcap := hM.cap
      clear hM q3
      subst hc'
      refine bodyPost_ret (retC2 rfl _ _ (w.heap.size + 1) _ _ rfl rfl (drew_heap (put6 G1.out _ _ _ _ _ _)) rfl) rfl ⟨a, kap, a2, kap2, ?_, ⟨ho', ?_, ?_, ?_, ?_⟩, nw, by omega, ?_⟩
      · simp only [hlen, List.length_set]
        rfl
      · show zs.length ≤ kap
        omega
      · simpa using p1
      · obtain ⟨cur, ea, hc⟩ := FR
        refine ⟨cur, drew_heap ((put6_away ?_ _ _ _ _ _ _).trans ea), hc⟩
        intro d
        rw [d, G1.out] at ea
        cases ea
      · obtain ⟨cur, ea, hc⟩ := FI
        refine ⟨cur, drew_heap ((put6_away ?_ _ _ _ _ _ _).trans ea), hc⟩
        intro d
        rw [d, G1.out] at ea
        cases ea
      · exact drew_below (put6_below FB (by omega) _ _ _ _ _ _)
end Rnor
end Go.Proofs.Ytfghlfolejpjjaa

/- The reference's chip: Of. -/
namespace Go.Proofs.Ytfghlfolejpjjaa
open Go.RowKit
set_option linter.unusedVariables false
attribute [local go_sem] max2_int min2_int max_two min_two
namespace Rnor
theorem grown_block {w w' : World} {o : Option Nat} (g : w.grownBy w' o) {r : Nat} (hr : r < w.heap.size) (hn : o ≠ some r) : w'.heap[r]? = w.heap[r]? := g.block r hr fun e => hn e.symm
theorem sz_al {w : World} {k : Nat} (h : k ≤ w.heap.size) (o : Obj) : k ≤ (w.alloc o).heap.size := by simp; omega
theorem two1 (w : World) (A B : Obj) : ((w.alloc A).alloc B).drew.heap[w.heap.size + 1]? = some B := by
  have := heap_alloc_new (w.alloc A) B
  have e : (w.alloc A).heap.size = w.heap.size + 1 := by simp
  rw [e] at this
  exact this
theorem two0 (w : World) (A B : Obj) : ((w.alloc A).alloc B).drew.heap[w.heap.size]? = some A := (alloc1_then (Below.refl _ _)).1 |> fun h => (Below.heap_alloc _ _ _ (Array.getElem?_eq_some_iff.1 h).1).trans h
theorem one0 (w : World) (A : Obj) : (w.alloc A).drew.heap[w.heap.size]? = some A := heap_alloc_new w A
theorem own_made {w : World} {B g : Nat} (h : w.heap[g]? = some (.cells #[] 34 (0, 0))) (hb : B ≤ g) : w.ownsRow B 34 1 (.slice (some ⟨g, 0, none⟩) 0 0) 0 (([] : List Int).map (Value.int .u32)) := ⟨rfl, .inr ⟨g, 0, #[], rfl, hb, h, Nat.le_refl _, Nat.zero_le _, rfl, rfl⟩⟩
/-- The same append, as one step of a region that draws. -/
theorem step_append_r {w : World} {ops : Array Oper} {o : Oper} {a : Act} {K : Act → World → Prop} {Q : Exit → Act → World → Prop} {E : Prop} (hgd : o.guard = none) (s x : Operand)
    (ho : o.op = .call { callee := .builtin .append, args := #[s, x], argTypes := #[22, 22] })
    (base : Nat) (v : Value) (n : Nat) (xs : List Int) (hs : a.eval s = v) (hown : w.ownsRow base 34 1 v n (xs.map (Value.int .u32)))
    {b off m c : Nat} {zs : List Int} (hx : a.eval x = .slice (some ⟨b, off, none⟩) m c) (hl : zs.length = m) (hc : ∀ i, i < m → w.cell? ⟨b, off + i, none⟩ = some (.int .u32 (zs.getD i 0))) (hbig : n + m ≤ 100000) (hbase : base ≤ w.heap.size)
    (h : ∀ v' w', w'.ownsRow base 34 1 v' (n + m) ((xs ++ zs).map (Value.int .u32)) → w.grownBy w' v.ownBlock → (∀ k, v.ownBlock = some k → base ≤ k) → (∀ r x, w.heap[r]? = some x → v.ownBlock ≠ some r → w'.heap[r]? = some x) → K (a.put o.dst v') w') :
    if Region.wanted o (yielded ops a.tmps) = true then Oper.wp Try.prog o a w K Q else E := by
  obtain ⟨i0, hi, hz0, hz1, hz2⟩ := info_parts Sl.info32
  rw [if_pos (by simp [Region.wanted, hgd])]
  refine wp_append_own w s x _ ho base 34 i0 (.int .u32 0) 1 4 Sl.under32 hi hz0 hz1 hz2 rfl (by decide) v n _ hs hown ⟨b, off, none⟩ m c (zs.map (Value.int .u32)) hx (by simp [hl]) ?_ ?_ (by unfold maxLen; omega) (by omega) hbase ?_
  · intro j u hj
    have hjn : j < zs.length := by
      have := (List.getElem?_eq_some_iff.1 hj).1
      simpa using this
    rw [Addr.add_lit, hc j (by omega)]
    have e : (zs.map (Value.int .u32))[j]? = some (Value.int .u32 (zs.getD j 0)) := by simp [List.getD, hjn]
    rw [e] at hj
    exact hj
  · intro u hu; obtain ⟨x, _, rfl⟩ := List.mem_map.1 hu; rfl
  · intro v' w' h1 h2 _
    exact h v' w' (by simpa using h1) h2 (fun k hk => (World.ownsRow.lt hown k hk).1) fun r x hx hn => (grown_block h2 (Array.getElem?_eq_some_iff.1 hx).1 hn).trans hx
theorem Below.trans' {w wA w1 : World} (h : Below w.heap.size w wA) (b : Below (w.heap.size + 1) wA w1) : Below w.heap.size w w1 := h.trans ⟨b.os, b.tape, b.output, b.size, fun k hk => b.block k (Nat.lt_succ_of_lt hk)⟩
theorem Row.al {w : World} {a : Nat} {zs : List Int} (h : Row w a zs) (o : Obj) : Row (w.alloc o) a zs := h.below (alloc1_below w o)
theorem heap_al {w : World} {a : Nat} {x : Obj} (h : w.heap[a]? = some x) (o : Obj) : (w.alloc o).heap[a]? = some x := (Below.heap_alloc _ _ _ (Array.getElem?_eq_some_iff.1 h).1).trans h
theorem of_end {w W : World} {a ka be n : Nat} {zs : List Int} {endure : Int} {c : Nr.C} (h1 : 1 ≤ n) (h2 : n ≤ 64) (hl : zs.length = 64 * n) (he : 0 ≤ endure) (hr : ∀ i, 0 ≤ zs.getD i 0 ∧ zs.getD i 0 < 4294967296) (he2 : endure ≤ 9223372036854775807) (q : Nr.of_ zs endure = c)
    (hbox : W.heap[w.heap.size]? = some (.cells #[.slice none 0 0, .slice none 0 0, .int .i64 0, .int .i64 0, .int .u32 0, .bool false] 58 (0, 0))) (hrow : Row W a zs) (hka : 64 * n ≤ ka) (hbe : W.heap[be]? = some (.cells (madeCells #[.int .i64 0] n) 3 (0, 0))) (hB : Below w.heap.size w W) (la : w.heap.size + 1 ≤ a) (lb : w.heap.size + 1 ≤ be) :
    ∃ x kx y ky, Ending.returned (Value.agg #[.slice (some ⟨a, 0, none⟩) (64 * n) ka, .slice (some ⟨be, 0, none⟩) n n, .int .i64 endure, .int .i64 0, .int .u32 0, .bool false]) = .returned (rv x kx y ky c) ∧
      RAt ((((((W.setCell ⟨w.heap.size, 0, none⟩ (.slice (some ⟨a, 0, none⟩) (64 * n) ka)).setCell ⟨w.heap.size, 1, none⟩ (.slice (some ⟨be, 0, none⟩) n n)).setCell ⟨w.heap.size, 2, none⟩ (.int .i64 endure)).setCell ⟨w.heap.size, 3, none⟩ (.int .i64 0)).setCell ⟨w.heap.size, 4, none⟩ (.int .u32 0)).setCell ⟨w.heap.size, 5, none⟩ (.bool false)) x kx y ky c ∧ w.heap.size ≤ x ∧ w.heap.size ≤ y ∧
      Below w.heap.size w ((((((W.setCell ⟨w.heap.size, 0, none⟩ (.slice (some ⟨a, 0, none⟩) (64 * n) ka)).setCell ⟨w.heap.size, 1, none⟩ (.slice (some ⟨be, 0, none⟩) n n)).setCell ⟨w.heap.size, 2, none⟩ (.int .i64 endure)).setCell ⟨w.heap.size, 3, none⟩ (.int .i64 0)).setCell ⟨w.heap.size, 4, none⟩ (.int .u32 0)).setCell ⟨w.heap.size, 5, none⟩ (.bool false)) := by
  have ok := Nor.of_ok h1 h2 hl he hr he2
  rw [q] at ok
  subst q
  have hd : zs.length / 64 = n := by omega
  refine ⟨a, ka, be, n, ?_, ⟨ok, ?_, ?_, ?_, ?_⟩, by omega, by omega, put6_below hB (Nat.le_refl _) _ _ _ _ _ _⟩
  · simp [rv, Nr.of_, hl]
  · show zs.length ≤ ka
    omega
  · simp [Nr.of_, hd]
  · obtain ⟨cur, ea, hc⟩ := hrow
    exact ⟨cur, (put6_away (by omega) _ _ _ _ _ _).trans ea, hc⟩
  · refine ⟨_, (put6_away (by omega) _ _ _ _ _ _).trans hbe, fun i hi => ?_⟩
    simp only [Nr.of_, hd, List.length_replicate] at hi
    simp only [Nr.of_, hd, Nr.getD_replicate, if_pos hi]
    simp [madeCells, hi, Nat.mod_one]
set_option maxHeartbeats 1000000 in
set_option maxRecDepth 100000 in
theorem of_c {w : World} {b kap n : Nat} {zs : List Int} {endure : Int} (h1 : 1 ≤ n) (h2 : n ≤ 64) (hl : zs.length = 64 * n) (he : 0 ≤ endure) (hr : ∀ i, 0 ≤ zs.getD i 0 ∧ zs.getD i 0 < 4294967296)
    (he2 : endure ≤ 9223372036854775807) (hR : Row w b zs) {c : Nr.C} (q : Hid (Nr.of_ zs endure = c)) :
    Calls Try.prog 48 #[.slice (some ⟨b, 0, none⟩) (64 * n) kap, .int .i64 endure] w fun e w' => ∃ a kap a2 kap2, e = .returned (rv a kap a2 kap2 c) ∧ RAt w' a kap a2 kap2 c ∧ w.heap.size ≤ a ∧ w.heap.size ≤ a2 ∧ Below w.heap.size w w' := by
  have HE := Lib.hid he2
  have hl2 : ((64 * n : Nat) : Int) = 64 * (n : Int) := by omega
  have hd : (64 * (n : Int)).tdiv 64 = n := by rw [Int.tdiv_eq_ediv_of_nonneg (by omega)]; omega
  have hm : (64 * (n : Int)).tmod 64 = 0 := by rw [Int.tmod_eq_emod_of_nonneg (by omega)]; omega
  have HR := Lib.hid hr
  have HL := Lib.hid hl
  have hmk := run_make_row' (P := Try.prog) 56 3 (.int .i64 0) 8 Nor.underI Nor.infoI rfl .i64 .i64 n (by omega) (by omega)
  have HA : Hid (∀ o, Row (w.alloc o).drew b zs) := Lib.hid fun o => (Row.al hR o).below (drew_below (Below.refl _ _))
  clear hR he2 hr hl
  go_enter Try.func48, Try.ntmps48
  go_wp2
  have hsz : (w.alloc (.cells #[.slice none 0 0, .slice none 0 0, .int .i64 0, .int .i64 0, .int .u32 0, .bool false] 58)).heap.size = w.heap.size + 1 := by simp
  have E0 := Lib.hid (heap_alloc_new w (.cells #[.slice none 0 0, .slice none 0 0, .int .i64 0, .int .i64 0, .int .u32 0, .bool false] 58))
  have B0 := alloc1_below w (.cells #[.slice none 0 0, .slice none 0 0, .int .i64 0, .int .i64 0, .int .u32 0, .bool false] 58)
  replace HA := Lib.hid (HA.out (.cells #[.slice none 0 0, .slice none 0 0, .int .i64 0, .int .i64 0, .int .u32 0, .bool false] 58))
  generalize w.alloc (.cells #[.slice none 0 0, .slice none 0 0, .int .i64 0, .int .i64 0, .int .u32 0, .bool false] 58) = wA at *
  have HZ := Lib.hid hsz
  clear hsz
  have HY : w.heap.size + 1 ≤ wA.heap.size := Nat.le_of_eq HZ.out.symm
  go_region_law (refine step_append_r rfl (.tmp 26) (.tmp 27) rfl (w.heap.size + 1) _ 0 [] rfl (by first | exact own_made (one0 _ _) HY | exact own_made (two0 _ _ _) HY | exact own_made (two1 _ _ _) (Nat.le_succ_of_le HY)) (b := b) (off := 0) (m := 64 * n) (zs := zs) rfl HL.out (fun i hi => by rw [Nat.zero_add]; exact Row.cell (by repeat (first | exact HA.out | apply Row.al)) (by rw [HL.out]; exact hi)) (by omega) (by repeat (first | exact HY | refine sz_al ?_ _)) ?_; intro v1 w1 o1 g1 g2 g3; rw [Nat.zero_add, List.nil_append] at o1; obtain ⟨a, ka, rfl, p1, p2, p3, p4⟩ := row_own o1 (by omega); have B1 : Below (w.heap.size + 1) wA w1 := Below.grown (w := _) (by repeat (first | exact Below.refl _ _ | refine drew_below ?_ | refine Below.alloc ?_ (by repeat (first | exact HY | refine sz_al ?_ _)) _)) g1 (by repeat (first | exact HY | refine sz_al ?_ _)) g2; clear g1 g2 p3 o1; have E1 := Lib.hid ((B1.block w.heap.size (Nat.lt_succ_self _)).trans E0.out); obtain ⟨x0, x1, x2, x3, x4, x5, xf⟩ := cells6 E1.out; have yy := fun o => cells6 (heap_al E1.out o))
  all_goals go_wp2
  all_goals have BB := Below.trans' B0 B1
  all_goals refine bodyPost_ret (retC rfl _ _ w.heap.size _ rfl (put6 (by first | exact E1.out | exact heap_al E1.out _) _ _ _ _ _ _) rfl) rfl ?_
  · exact of_end h1 h2 HL.out he HR.out HE.out q.out (heap_al E1.out _) (Row.al p4 _) p1 (heap_alloc_new w1 _) (BB.alloc BB.size _) p2 (by have := B1.size; omega)
  · exact of_end h1 h2 HL.out he HR.out HE.out q.out E1.out p4 p1 (g3 _ _ (two1 _ _ _) (by intro h; have h' : some wA.heap.size = some (wA.heap.size + 1) := h; simp at h')) BB p2 (by omega)
  · exact of_end h1 h2 HL.out he HR.out HE.out q.out E1.out p4 p1 (g3 _ _ (two0 _ _ _) (by intro h; have h' : some (wA.heap.size + 1) = some wA.heap.size := h; simp at h')) BB p2 (by omega)
end Rnor
end Go.Proofs.Ytfghlfolejpjjaa

/- The reference's chip: New. -/
namespace Go.Proofs.Ytfghlfolejpjjaa
open Go.RowKit
set_option linter.unusedVariables false
attribute [local go_sem] max2_int min2_int max_two min_two
namespace Rnor
theorem rep_snoc (k : Nat) : List.replicate k (4294967295 : Int) ++ [4294967295] = List.replicate (k + 1) 4294967295 := by rw [List.replicate_succ']
structure Ones (w wr : World) (v : Value) (k : Nat) : Prop where
  own : wr.ownsRow (w.heap.size + 1) 34 1 v k ((List.replicate k (4294967295 : Int)).map (Value.int .u32))
  below : Below w.heap.size w wr
  box : Hid (wr.heap[w.heap.size]? = some (.cells #[.slice none 0 0, .slice none 0 0, .int .i64 0, .int .i64 0, .int .u32 0, .bool false] 58 (0, 0)))
set_option maxHeartbeats 1000000 in
set_option maxRecDepth 100000 in
theorem new_c {w : World} {n : Nat} {endure : Int} (h1 : 1 ≤ n) (h2 : n ≤ 64) (he : 0 ≤ endure) (he2 : Hid (endure ≤ 9223372036854775807)) {c : Nr.C} (q : Hid (Nr.new n endure = c)) :
    Calls Try.prog 25 #[.int .i64 n, .int .i64 endure] w fun e w' => ∃ a kap a2 kap2, e = .returned (rv a kap a2 kap2 c) ∧ RAt w' a kap a2 kap2 c ∧ w.heap.size ≤ a ∧ w.heap.size ≤ a2 ∧ Below w.heap.size w w' := by
  have M0 : Ones w (w.alloc (.cells #[.slice none 0 0, .slice none 0 0, .int .i64 0, .int .i64 0, .int .u32 0, .bool false] 58)) (.slice none 0 0) 0 := ⟨World.ownsRow_nil _ _ _ _, alloc1_below w _, Lib.hid (heap_alloc_new w _)⟩
  go_enter Try.func25, Try.ntmps25
  go_wp2
  go_loopw [5, 6] (fun v i wr => ∃ k : Nat, k ≤ 64 * n ∧ i = .int .i64 k ∧ Ones w wr v k) (fun _ i _ => 64 * n - (intOf i).toNat)
  case atStart => exact ⟨0, Nat.zero_le _, rfl, M0⟩
  case round =>
    clear M0
    rename_i v wr _
    obtain ⟨k, hk, rfl, hM⟩ := hrel
    by_cases h3 : k < 64 * n
    · have h4 : (k : Int) < (n : Int) * 64 := by omega
      have hz := hM.below.size
      have hl := (Array.getElem?_eq_some_iff.1 hM.box.out).1
      go_wp2_with (at_builtin; refine append_r (by go_simp) _ _ rfl (w.heap.size + 1) _ k _ rfl (hM.own.alloc _) (b := wr.heap.size) (off := 0) (m := 1) (zs := [4294967295]) rfl rfl (one_cell wr 4294967295) (by omega) (by simp; omega) ?_; intro v1 w1 o1 g1; rw [rep_snoc] at o1; have B1 := own_grown (B := w.heap.size + 1) ((Below.refl _ wr).alloc hl _) (by simp; omega) (hM.own.alloc _) g1; clear g1)
      go_roundw
      case rel => exact ⟨k + 1, by omega, by go_num, o1, Below.trans' hM.below B1, Lib.hid ((B1.block _ (Nat.lt_succ_self _)).trans hM.box.out)⟩
      case measure => simp [intOf]; omega
    · obtain rfl : k = 64 * n := by omega
      obtain ⟨a, kap, rfl, p1, p2, p3, p4⟩ := row_own hM.own (by omega)
      have hof := of_c (w := wr) (b := a) (kap := kap) h1 h2 List.length_replicate he (fun i => by rw [Nr.getD_replicate]; split <;> decide) he2.out p4 (c := c) (Lib.hid (by rw [Nor.new_eq]; exact q.out))
      clear p3
      simp only [rv_eq] at hof
      go_wp2_with (go_at_call 48; refine hof.mono ?_; rintro e w2 ⟨a', ka', a2, ka2, rfl, q1, q2, q3, q4⟩; clear hof; have E2 := Lib.hid ((q4.block _ (Array.getElem?_eq_some_iff.1 hM.box.out).1).trans hM.box.out); obtain ⟨x0, x1, x2, x3, x4, x5, xf⟩ := cells6 E2.out)
      have BB : Below w.heap.size w w2 := Below.then hM.below q4
      have s1 := hM.below.size
      refine bodyPost_ret (retC rfl _ _ w.heap.size _ rfl (put6 E2.out _ _ _ _ _ _) rfl) rfl ⟨a', ka', a2, ka2, rfl, ⟨q1.ok, q1.kw, q1.ke, ?_, ?_⟩, by omega, by omega, put6_below BB (Nat.le_refl _) _ _ _ _ _ _⟩
      · obtain ⟨cur, ea, hc⟩ := q1.words
        refine ⟨cur, (put6_away ?_ _ _ _ _ _ _).trans ea, hc⟩
        intro d
        rw [d, E2.out] at ea
        cases ea
      · obtain ⟨cur, ea, hc⟩ := q1.wear
        refine ⟨cur, (put6_away ?_ _ _ _ _ _ _).trans ea, hc⟩
        intro d
        rw [d, E2.out] at ea
        cases ea
end Rnor
end Go.Proofs.Ytfghlfolejpjjaa

/- The reference's chip: each call's contract, its answer given by an equation. -/
namespace Go.Proofs.Ytfghlfolejpjjaa
open Go.RowKit
set_option linter.unusedVariables false
attribute [local go_sem] max2_int min2_int max_two min_two
namespace Rnor
/-- What a call leaves: its row of words, and its wear, are those that were there, or new ones. -/
structure RPost (w w' : World) (bw be a kap a2 kap2 : Nat) (c : Nr.C) : Prop where
  at_ : RAt w' a kap a2 kap2 c
  la : a = bw ∨ w.heap.size ≤ a
  lb : a2 = be ∨ w.heap.size ≤ a2
  below : Below w.heap.size w w'
theorem RPost.same {w w' : World} {bw kw be ke : Nat} {c : Nr.C} (h : RAt w bw kw be ke c) (hb : Below w.heap.size w w') : RPost w w' bw be bw kw be ke c := ⟨h.below hb, .inl rfl, .inl rfl, hb⟩
theorem words_len {c : Nr.C} (h : c.ok) : (c.words.length : Int) = (c.wear.length : Int) * 64 := by have := h.size; omega
theorem program_x {w : World} {bw kw be ke : Nat} {c c' : Nr.C} (h : RAt w bw kw be ke c) {at_ v e : Int} (hv : 0 ≤ v ∧ v < 4294967296) (q : Hid (Nr.programs c at_ v = (e, c'))) :
    Calls Try.prog 73 #[rv bw kw be ke c, .int .i64 at_, .int .u32 v] w fun x w' => ∃ a kap a2 kap2, x = .returned (.tuple #[rv a kap a2 kap2 c', .int .i64 e]) ∧ RPost w w' bw be a kap a2 kap2 c' := by
  have hl := words_len h.ok
  have q' := q.out
  unfold Nr.programs at q'
  rw [← hl] at q'
  by_cases ho : Nr.wrong c at_ (c.words.length : Int) = 0
  · rw [if_pos ho, Prod.mk.injEq] at q'
    have ho' := ho
    rw [hl] at ho'
    obtain ⟨m, rfl, hm⟩ := Nr.wrong_zero h.ok ho'
    refine (program_good h hm hv (Lib.hid ho) (Lib.hid (Nr.wrong_on ho)) (Lib.hid q'.2) (Lib.hid q'.1)).mono ?_
    rintro x w' ⟨a, kap, rfl, h1, h2, h3⟩
    exact ⟨a, kap, be, ke, rfl, h1, .inr h2, .inl rfl, h3⟩
  · rw [if_neg ho, Prod.mk.injEq] at q'
    obtain ⟨q1, rfl⟩ := q'
    refine (program_bad h at_ v (Lib.hid q1) (by rw [beq_eq_false_iff_ne, ← q1]; exact ho)).mono ?_
    rintro x w' ⟨rfl, h1⟩
    exact ⟨bw, kw, be, ke, rfl, RPost.same h h1⟩
theorem erase_x {w : World} {bw kw be ke : Nat} {c c' : Nr.C} (h : RAt w bw kw be ke c) {b e : Int} (q : Hid (Nr.erases c b = (e, c'))) :
    Calls Try.prog 72 #[rv bw kw be ke c, .int .i64 b] w fun x w' => ∃ a kap a2 kap2, x = .returned (.tuple #[rv a kap a2 kap2 c', .int .i64 e]) ∧ RPost w w' bw be a kap a2 kap2 c' := by
  have q' := q.out
  unfold Nr.erases at q'
  by_cases ho : Nr.wrong c b (c.wear.length : Int) = 0
  · rw [if_pos ho] at q'
    obtain ⟨m, rfl, hm⟩ := Nr.wrong_zero1 ho
    rw [Int.toNat_natCast] at q'
    by_cases hx : c.wear.getD m 0 < c.endure
    · rw [if_pos hx, Prod.mk.injEq] at q'
      refine (erase_good h hm (Lib.hid ho) (Lib.hid (Nr.wrong_on ho)) (Lib.hid rfl) hx (Lib.hid q'.2) (Lib.hid q'.1)).mono ?_
      rintro x w' ⟨a, kap, a2, kap2, rfl, h1, h2, h3, h4⟩
      exact ⟨a, kap, a2, kap2, rfl, h1, .inr h2, .inr h3, h4⟩
    · rw [if_neg hx, Prod.mk.injEq] at q'
      obtain ⟨rfl, rfl⟩ := q'
      refine (erase_worn h hm (Lib.hid ho) (by omega)).mono ?_
      rintro x w' ⟨rfl, h1⟩
      exact ⟨bw, kw, be, ke, rfl, RPost.same h h1⟩
  · rw [if_neg ho, Prod.mk.injEq] at q'
    obtain ⟨q1, rfl⟩ := q'
    refine (erase_bad h b (Lib.hid q1) (by rw [beq_eq_false_iff_ne, ← q1]; exact ho)).mono ?_
    rintro x w' ⟨rfl, h1⟩
    exact ⟨bw, kw, be, ke, rfl, RPost.same h h1⟩
theorem fuse_x {w : World} {bw kw be ke : Nat} {c c' : Nr.C} (h : RAt w bw kw be ke c) {n p : Int} (hn : n ≤ 9223372036854775807) (hp : 0 ≤ p ∧ p < 4294967296) (q : Hid (Nr.fuse c n p = c')) :
    Calls Try.prog 29 #[rv bw kw be ke c, .int .i64 n, .int .u32 p] w fun x w' => ∃ a kap a2 kap2, x = .returned (rv a kap a2 kap2 c') ∧ RPost w w' bw be a kap a2 kap2 c' := by
  refine (fuse_c h.ok q).mono ?_
  rintro x w' ⟨rfl, h1⟩
  have o := Nr.fuse_ok h.ok hn hp.1 hp.2
  rw [q.out] at o
  refine ⟨bw, kw, be, ke, rfl, ⟨o, ?_, ?_, ?_, ?_⟩, .inl rfl, .inl rfl, h1⟩
  all_goals rw [← q.out]
  · exact h.kw
  · exact h.ke
  · exact h.words.below h1
  · exact h.wear.below h1
theorem on_x {w : World} {bw kw be ke : Nat} {c c' : Nr.C} (h : RAt w bw kw be ke c) (q : Hid (Nr.on c = c')) :
    Calls Try.prog 32 #[rv bw kw be ke c] w fun x w' => ∃ a kap a2 kap2, x = .returned (rv a kap a2 kap2 c') ∧ RPost w w' bw be a kap a2 kap2 c' := by
  refine on_c.mono ?_
  rintro x w' ⟨rfl, h1⟩
  have o := Nr.on_ok h.ok
  rw [q.out] at o
  rw [q.out]
  refine ⟨bw, kw, be, ke, rfl, ⟨o, ?_, ?_, ?_, ?_⟩, .inl rfl, .inl rfl, h1⟩
  all_goals rw [← q.out]
  · exact h.kw
  · exact h.ke
  · exact h.words.below h1
  · exact h.wear.below h1
end Rnor
end Go.Proofs.Ytfghlfolejpjjaa

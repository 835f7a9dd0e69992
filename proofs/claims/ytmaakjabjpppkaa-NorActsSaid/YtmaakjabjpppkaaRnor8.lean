/- The reference's chip: Erase that is done. -/
import Derived.Test.YtmaakjabjpppkaaRnor7
import Derived.StillTailTactics
import Derived.IntWalk
namespace Go.Proofs.Ytmaakjabjpppkaa
open Go.RowKit
set_option linter.unusedVariables false
attribute [local go_sem] max2_int min2_int max_two min_two
namespace Rnor
theorem under_i : Try.prog.underlying 47 = some (.slice 3) := by kernel_rfl
theorem info_i : (Try.prog.info? 3).map (fun i => (i.zero, i.size, i.bytes)) = some (some (.int .i64 0), 1, 8) := by kernel_rfl
/-- Numbers behind one another are appended to a row of the call's own. -/
theorem append_i {w : World} {ops : Array Oper} {rest : List Oper} {o : Oper} {a : Act} {Q : Exit → Act → World → Prop} (hgd : Region.wanted o (yielded ops a.tmps) = true) (s x : Operand)
    (ho : o.op = .call { callee := .builtin .append, args := #[s, x], argTypes := #[47, 47] })
    (base : Nat) (v : Value) (n : Nat) (xs : List Int) (hs : a.eval s = v) (hown : w.ownsRow base 3 1 v n (xs.map (Value.int .i64)))
    {b off m c : Nat} {zs : List Int} (hx : a.eval x = .slice (some ⟨b, off, none⟩) m c) (hl : zs.length = m) (hc : ∀ i, i < m → w.cell? ⟨b, off + i, none⟩ = some (.int .i64 (zs.getD i 0))) (hbig : n + m ≤ 100000) (hbase : base ≤ w.heap.size)
    (h : ∀ v' w', w'.ownsRow base 3 1 v' (n + m) ((xs ++ zs).map (Value.int .i64)) → w.grownBy w' v.ownBlock → wpList Try.prog ops Q rest (a.put o.dst v') w') : wpList Try.prog ops Q (o :: rest) a w := by
  obtain ⟨i0, hi, hz0, hz1, hz2⟩ := info_parts info_i
  refine wpList_step fun K hK => ?_
  rw [if_pos hgd]
  refine wp_append_own w s x _ ho base 3 i0 (.int .i64 0) 1 8 under_i hi hz0 hz1 hz2 rfl (by decide) v n _ hs hown ⟨b, off, none⟩ m c (zs.map (Value.int .i64)) hx (by simp [hl]) ?_ ?_ (by unfold maxLen; omega) (by omega) hbase ?_
  · intro j u hj
    have hjn : j < zs.length := by
      have := (List.getElem?_eq_some_iff.1 hj).1
      simpa using this
    rw [Addr.add_lit, hc j (by omega)]
    have e : (zs.map (Value.int .i64))[j]? = some (Value.int .i64 (zs.getD j 0)) := by simp [List.getD, hjn]
    rw [e] at hj
    exact hj
  · intro u hu; obtain ⟨x, _, rfl⟩ := List.mem_map.1 hu; rfl
  · intro v' w' h1 h2 _
    exact hK _ _ (h v' w' (by simpa using h1) h2)
theorem row_i {w : World} {B n : Nat} {v : Value} {zs : List Int} (h : w.ownsRow B 3 1 v n (zs.map (Value.int .i64))) (hn : 0 < n) :
    ∃ a kap, v = .slice (some ⟨a, 0, none⟩) n kap ∧ n ≤ kap ∧ B ≤ a ∧ zs.length = n ∧ IRow w a zs := by
  obtain ⟨h1, ⟨rfl, rfl⟩ | ⟨g, cap, cur, rfl, hb, hg, hc, hm, hs, ht⟩⟩ := h
  · omega
  · have hl : zs.length = n := by simpa using h1
    refine ⟨g, cap, rfl, hc, hb, hl, cur, hg, fun i hi => ?_⟩
    have e : (cur.toList.take (n * 1))[i]? = (zs.map (Value.int .i64))[i]? := by rw [ht]
    rw [List.getElem?_take, if_pos (by omega), List.getElem?_map, List.getElem?_eq_getElem hi] at e
    rw [← Array.getElem?_toList, e]
    simp [List.getD, hi]
theorem IRow.set {w : World} {a i : Nat} {zs : List Int} (h : IRow w a zs) (hi : i < zs.length) (v : Int) : IRow (w.setCell ⟨a, i, none⟩ (.int .i64 v)) a (zs.set i v) := by
  obtain ⟨cur, e, hc⟩ := h
  refine ⟨cur.setIfInBounds i (.int .i64 v), heap_set e i _, fun j hj => ?_⟩
  have hj' : j < zs.length := by simpa using hj
  rw [Nr.getD_set, Array.getElem?_setIfInBounds]
  by_cases d : i = j
  · subst d
    have := hc i hi
    have hs : i < cur.size := (Array.getElem?_eq_some_iff.1 this).1
    rw [if_pos rfl, if_pos hs, if_pos ⟨rfl, hi⟩]
  · rw [if_neg d, if_neg (by simp [d])]
    exact hc j hj'
theorem IRow.free {w : World} {a : Nat} {zs : List Int} (h : IRow w a zs) (i : Nat) : w.frozen? ⟨a, i, none⟩ = false := by
  obtain ⟨cur, e, hc⟩ := h
  simp only [World.frozen?, e]
  simp
theorem drew_heap {w : World} {r : Nat} {o : Option Obj} (h : w.heap[r]? = o) : w.drew.heap[r]? = o := h
/-- The box of the row that is worked on. -/
def box (w : World) (r bw kw be ke : Nat) (c : Nr.C) : Prop := w.heap[r]? = some (.cells #[.slice (some ⟨bw, 0, none⟩) c.words.length kw, .slice (some ⟨be, 0, none⟩) c.wear.length ke, .int .i64 c.endure, .int .i64 c.fuse, .int .u32 c.pick, .bool c.off] 49 (0, 0))
theorem erase_eq {c : Nr.C} {m : Nat} {x f : Int} {b : Bool} (hx : c.wear.getD m 0 = x) (q1 : Hid (max (c.fuse - 1) 0 = f)) (q2 : Hid (decide (c.fuse = 1) = b)) :
    Nr.erase c m = { c with words := Nr.changed (fun _ => 4294967295) b c.pick (m * 64) 64 c.words, wear := c.wear.set m (x + 1), fuse := f, off := b } := by
  subst hx
  rw [← q1.out, ← q2.out]
  rfl
theorem mid_ok {c : Nr.C} {f : Int} {b : Bool} {zs : List Int} {at_ k : Nat} (h : c.ok) (q1 : Hid (max (c.fuse - 1) 0 = f)) (hz : Hid (Nr.changed (fun _ => 4294967295) b c.pick at_ k c.words = zs)) : ({ c with words := zs, fuse := f, off := b } : Nr.C).ok := by
  have o := burnt_ok (b := b) h q1
  have r := fun i => Nr.changed_rng (burns := b) (pick := c.pick) (at_ := at_) (k := k) (to := fun _ => 4294967295) (fun i => ⟨h.words_lo i, h.words_hi i⟩) (fun w _ _ => by decide) i
  have hl := Nr.length_changed (fun _ => 4294967295) b c.pick at_ k c.words
  rw [hz.out] at r hl
  exact ⟨hl.trans h.size, h.some_, h.most, fun i => (r i).1, fun i => (r i).2, h.wear_lo, h.wear_hi, h.endure_lo, h.endure_hi, o.fuse_lo, o.fuse_hi, h.pick_lo, h.pick_hi⟩
/-- Where the loop has come to. -/
structure Mid (w wr : World) (be ke m : Nat) (c : Nr.C) (f : Int) (b : Bool) (k a kap : Nat) (zs : List Int) : Prop where
  len : zs.length = c.words.length
  cap : c.words.length ≤ kap
  row : Row wr a zs
  eq : Hid (Nr.changed (fun _ => 4294967295) b c.pick (m * 64) k c.words = zs)
  box : wr.heap[w.heap.size]? = some (.cells #[.slice (some ⟨a, 0, none⟩) c.words.length kap, .slice (some ⟨be, 0, none⟩) c.wear.length ke, .int .i64 c.endure, .int .i64 f, .int .u32 c.pick, .bool b] 49 (0, 0))
  box2 : Hid (wr.heap[w.heap.size + 1]? = some (.cells #[.slice none 0 0, .slice none 0 0, .int .i64 0, .int .i64 0, .int .u32 0, .bool false] 49 (0, 0)))
  below : Below w.heap.size w wr
  new : 0 < k → w.heap.size ≤ a
theorem Mid.drew {w wr : World} {be ke m : Nat} {c : Nr.C} {f : Int} {b : Bool} {k a kap : Nat} {zs : List Int} (h : Mid w wr be ke m c f b k a kap zs) : Mid w wr.drew be ke m c f b k a kap zs := ⟨h.len, h.cap, h.row, h.eq, h.box, h.box2, drew_below h.below, h.new⟩
theorem Mid.next {w wr w3 : World} {be ke m : Nat} {c : Nr.C} {f : Int} {b : Bool} {k a kap a' kap' : Nat} {zs zs' : List Int} (h : Mid w wr be ke m c f b k a kap zs) (p1 : Below wr.heap.size wr w3) (p2 : Row w3 a' zs') (p3 : zs'.length = c.words.length) (p4 : c.words.length ≤ kap') (p5 : wr.heap.size ≤ a') (p6 : Hid (Nr.changed (fun _ => 4294967295) b c.pick (m * 64) (k + 1) c.words = zs')) :
    Mid w ((((((w3.setCell ⟨w.heap.size, 0, none⟩ (.slice (some ⟨a', 0, none⟩) c.words.length kap')).setCell ⟨w.heap.size, 1, none⟩ (.slice (some ⟨be, 0, none⟩) c.wear.length ke)).setCell ⟨w.heap.size, 2, none⟩ (.int .i64 c.endure)).setCell ⟨w.heap.size, 3, none⟩ (.int .i64 f)).setCell ⟨w.heap.size, 4, none⟩ (.int .u32 c.pick)).setCell ⟨w.heap.size, 5, none⟩ (.bool b)) be ke m c f b (k + 1) a' kap' zs' := by
  have e3 := (p1.block _ (Array.getElem?_eq_some_iff.1 h.box).1).trans h.box
  have e4 := (p1.block _ (Array.getElem?_eq_some_iff.1 h.box2.out).1).trans h.box2.out
  have l2 := (Array.getElem?_eq_some_iff.1 h.box2.out).1
  have hs := h.below.size
  refine ⟨p3, p4, ?_, p6, put6 e3 _ _ _ _ _ _, Lib.hid ((put6_away (by omega) _ _ _ _ _ _).trans e4), put6_below (Below.then h.below p1) (Nat.le_refl _) _ _ _ _ _ _, fun _ => by omega⟩
  obtain ⟨cur, ea, hc⟩ := p2
  exact ⟨cur, (put6_away (by omega) _ _ _ _ _ _).trans ea, hc⟩
theorem change_mid {w wr : World} {be ke bw kw m : Nat} {c : Nr.C} {f : Int} {b : Bool} {k a kap : Nat} {zs : List Int} (h : RAt w bw kw be ke c) (hm : m < c.wear.length) (q1 : Hid (max (c.fuse - 1) 0 = f)) (hM : Mid w wr be ke m c f b k a kap zs) (hk : k < 64) :
    Calls Try.prog 44 #[.agg #[.slice (some ⟨a, 0, none⟩) c.words.length kap, .slice (some ⟨be, 0, none⟩) c.wear.length ke, .int .i64 c.endure, .int .i64 f, .int .u32 c.pick, .bool b], .int .i64 ((m * 64 + k : Nat) : Int), .int .u32 4294967295, .bool b, .int .u32 (Bt.turn c.pick k)] wr fun e w' =>
      ∃ a' kap' zs', e = .returned (.agg #[.slice (some ⟨a', 0, none⟩) c.words.length kap', .slice (some ⟨be, 0, none⟩) c.wear.length ke, .int .i64 c.endure, .int .i64 f, .int .u32 c.pick, .bool b]) ∧ Below wr.heap.size wr w' ∧ Row w' a' zs' ∧ zs'.length = c.words.length ∧ c.words.length ≤ kap' ∧ wr.heap.size ≤ a' ∧ Hid (Nr.changed (fun _ => 4294967295) b c.pick (m * 64) (k + 1) c.words = zs') := by
  have hs := h.ok.size
  have hl := hM.len
  have hR : RAt wr a kap be ke { c with words := zs, fuse := f, off := b } := ⟨mid_ok h.ok q1 hM.eq, by rw [hl]; exact hM.cap, h.ke, hM.row, h.wear.below hM.below⟩
  have hx : zs.getD (m * 64 + k) 0 = c.words.getD (m * 64 + k) 0 := by
    rw [← hM.eq.out, Nr.getD_changed _ _ _ _ _ _ _ (by omega), if_neg (by omega)]
  have e := Nr.changed_succ (fun _ => 4294967295) b c.pick (m * 64) k c.words (by omega)
  rw [hM.eq.out, ← hx] at e
  have hc := change_c (u := Nr.way b c.pick k (zs.getD (m * 64 + k) 0) 4294967295) hR (m := m * 64 + k) (by show m * 64 + k < zs.length; omega) 4294967295 (Bt.turn c.pick k) b (by decide) (Bt.turn_rng _ _) (Lib.hid rfl)
  unfold rv at hc
  simp only [hl, List.length_set] at hc
  refine hc.mono ?_
  rintro e' w' ⟨a', kap', rfl, p1, p2, p3, p4⟩
  exact ⟨a', kap', _, rfl, p4, p1, by rw [List.length_set, hl], p2, p3, Lib.hid e.symm⟩
set_option maxHeartbeats 1000000 in
set_option maxRecDepth 100000 in
theorem erase_good {w : World} {bw kw be ke m : Nat} {c : Nr.C} (h : RAt w bw kw be ke c) (hm : m < c.wear.length) (q : Hid (Nr.wrong c (m : Int) (c.wear.length : Int) = 0)) (ho : Hid (c.off = false)) {x : Int} (hg : Hid (c.wear.getD m 0 = x)) (hx : x < c.endure) {c' : Nr.C} {n : Int} (q3 : Hid (Nr.erase c m = c')) (q4 : Hid (Nr.ended c = n)) :
    Calls Try.prog 34 #[rv bw kw be ke c, .int .i64 m] w fun e w' => ∃ a kap a2 kap2, e = .returned (.tuple #[rv a kap a2 kap2 c', .int .i64 n]) ∧ RAt w' a kap a2 kap2 c' ∧ w.heap.size ≤ a ∧ w.heap.size ≤ a2 ∧ Below w.heap.size w w' := by
  have hW := fun W : World => wrong_e (w := W) (bw := bw) (kw := kw) (be := be) (ke := ke) h.ok q
  obtain ⟨f, q1⟩ : ∃ f, Hid (max (c.fuse - 1) 0 = f) := ⟨_, Lib.hid rfl⟩
  obtain ⟨b, q2⟩ : ∃ b, Hid (decide (c.fuse = 1) = b) := ⟨_, Lib.hid rfl⟩
  have hB := fun W : World => burnt_e (w := W) (bw := bw) (kw := kw) (be := be) (ke := ke) h.ok ho.out q1 q2
  have CW := Lib.hid (h.wear.cell hm)
  have hm1 : (m : Int) < (c.wear.length : Int) := by omega
  rw [hg.out] at CW
  have hx0 : 0 ≤ x := by rw [← hg.out]; exact h.ok.wear_lo m
  have hwr : wrap64 (x + 1) = x + 1 := IntWalk.wrap64_in _ (by have := h.ok.endure_hi; omega)
  unfold rv at *
  go_enter Try.func34, Try.ntmps34
  go_wp2_with (go_at_call 42; refine (hW _).mono ?_; rintro e w1 ⟨rfl, b1⟩; clear hW; obtain ⟨e0, e1, B⟩ := alloc2_then b1; clear b1; have E1 := Lib.hid e1; have E0 := Lib.hid e0; obtain ⟨x0, x1, x2, x3, x4, x5, xf⟩ := cells6 e0; clear e0 e1; have cw := Sl.below_cell B CW.out)
  go_quiet (fail)
  replace E0 := Lib.hid (drewN_heap (n := nq) E0.out)
  replace E1 := Lib.hid (drewN_heap (n := nq) E1.out)
  replace B := drewN_below B nq
  go_wp2_with (first | (go_at_call 43; refine (hB _).mono ?_; rintro e w2 ⟨rfl, b2⟩; clear hB; replace E1 := Lib.hid ((b2.block _ (Array.getElem?_eq_some_iff.1 E1.out).1).trans E1.out); replace E0 := Lib.hid ((b2.block _ (Array.getElem?_eq_some_iff.1 E0.out).1).trans E0.out); replace B := Below.then B b2; clear b2 x0 x1 x2 x3 x4 x5 xf; obtain ⟨x0, x1, x2, x3, x4, x5, xf⟩ := cells6 E0.out))
  obtain ⟨W, hWe⟩ : ∃ W, W = ((((((w2.setCell ⟨w.heap.size, 0, none⟩ (.slice (some ⟨bw, 0, none⟩) c.words.length kw)).setCell ⟨w.heap.size, 1, none⟩ (.slice (some ⟨be, 0, none⟩) c.wear.length ke)).setCell ⟨w.heap.size, 2, none⟩ (.int .i64 c.endure)).setCell ⟨w.heap.size, 3, none⟩ (.int .i64 f)).setCell ⟨w.heap.size, 4, none⟩ (.int .u32 c.pick)).setCell ⟨w.heap.size, 5, none⟩ (.bool b)) := ⟨_, rfl⟩
  have F0 := put6 E0.out (.slice (some ⟨bw, 0, none⟩) c.words.length kw) (.slice (some ⟨be, 0, none⟩) c.wear.length ke) (.int .i64 c.endure) (.int .i64 f) (.int .u32 c.pick) (.bool b)
  have F1 := (put6_away (r := w.heap.size) (g := w.heap.size + 1) (w := w2) (by omega) (.slice (some ⟨bw, 0, none⟩) c.words.length kw) (.slice (some ⟨be, 0, none⟩) c.wear.length ke) (.int .i64 c.endure) (.int .i64 f) (.int .u32 c.pick) (.bool b)).trans E1.out
  have FB := put6_below B (Nat.le_refl _) (.slice (some ⟨bw, 0, none⟩) c.words.length kw) (.slice (some ⟨be, 0, none⟩) c.wear.length ke) (.int .i64 c.endure) (.int .i64 f) (.int .u32 c.pick) (.bool b)
  rw [← hWe] at F0 F1 FB ⊢
  clear hWe x0 x1 x2 x3 x4 x5 xf E0 E1 B cw
  have M0 : Mid w W be ke m c f b 0 bw kw c.words := ⟨rfl, h.kw, h.words.below FB, Lib.hid (Nr.changed_zero _ _ _ _ _), F0, Lib.hid F1, FB, fun k => absurd k (Nat.lt_irrefl _)⟩
  clear F0 F1 FB
  have HM := Lib.hid hm1
  have hm64 : (m : Int) < 64 := by have := h.ok.most; omega
  clear hm1
  go_loopw [8] (fun i wr => ∃ (k a kap : Nat) (zs : List Int), k ≤ 64 ∧ i = .int .i64 k ∧ Mid w wr be ke m c f b k a kap zs) (fun i _ => 64 - (intOf i).toNat)
  case atStart => exact ⟨0, bw, kw, c.words, Nat.zero_le _, rfl, M0⟩
  case round =>
    clear M0
    obtain ⟨k, a, kap, zs, hk, rfl, hM⟩ := hrel
    obtain ⟨x0, x1, x2, x3, x4, x5, xf⟩ := cells6 hM.box
    by_cases h2 : k < 64
    · have h3 : (k : Int) < 64 := by omega
      have hch := change_mid h hm q1 hM.drew h2
      have hT : ∀ W : World, Calls Try.prog 45 #[.int .u32 c.pick, .int .i64 k] W (fun e w' => e = .returned (.int .u32 (Bt.turn c.pick k)) ∧ w' = W) := fun W => (Ref1.turn_c _ _ W h.ok.pick_lo h.ok.pick_hi).mono fun e w' ⟨e1, e2⟩ => ⟨e1, e2.symm⟩
      have g1 : IntKind.i64.wrap ((m : Int) * 64) = (m : Int) * 64 := IntWalk.i64_in _ (by omega)
      have g2 : IntKind.i64.wrap ((m : Int) * 64 + (k : Int)) = (m : Int) * 64 + (k : Int) := IntWalk.i64_in _ (by omega)
      go_wp2
      refine wp_region_still_tail 10 (by kernel_rfl) (by kernel_rfl) ?_
      simp only [List.take_succ_cons, List.take_zero, List.drop_succ_cons, List.drop_zero]
      repeat still_step
      still_call (hT _)
      refine wpStill_nil ?_
      change wpList _ _ _ _ _ wr.drew
      clear g1 g2 hT
      go_wp2_with (go_at_call 44; rw [show ((m : Int) * 64 + (k : Int)) = ((m * 64 + k : Nat) : Int) by omega]; refine hch.mono ?_; rintro e w3 ⟨a', kap', zs', rfl, p1, p2, p3, p4, p5, p6⟩; clear hch; have P3 := Lib.hid p3; clear p3; have E3 := Lib.hid ((p1.block _ (Array.getElem?_eq_some_iff.1 hM.drew.box).1).trans hM.drew.box); obtain ⟨y0, y1, y2, y3, y4, y5, yf⟩ := cells6 E3.out)
      go_roundw
      case rel => exact ⟨k + 1, a', kap', zs', by omega, by go_num, hM.drew.next p1 p2 P3.out p4 p5 p6⟩
      case measure => simp [intOf]; omega
    · obtain rfl : k = 64 := by omega
      have l0 := hm
      have hl64 : c.wear.length ≤ 64 := h.ok.most
      have HR : IRow wr be c.wear := h.wear.below hM.below
      have HS : Hid (∀ o : Obj, ∀ i, i < c.wear.length → (wr.alloc o).cell? ⟨be, 0 + i, none⟩ = some (.int .i64 (c.wear.getD i 0))) := Lib.hid fun o i hi => by rw [Nat.zero_add]; exact Lib.cell?_alloc_some _ (HR.cell hi)
      have X1 : ∀ o : Obj, (wr.alloc o).cell? ⟨w.heap.size, 1, none⟩ = some (.slice (some ⟨be, 0, none⟩) c.wear.length ke) := fun o => Lib.cell?_alloc_some _ x1
      clear HR h2 hk
      go_wp2_with (at_builtin; refine append_i (by go_simp) _ _ rfl wr.heap.size _ 0 [] rfl (World.ownsRow_made wr #[] 0 (Nat.le_refl _) (Nat.zero_le _) rfl) (b := be) (off := 0) (m := c.wear.length) (zs := c.wear) rfl rfl (HS.out _) (by omega) (by simp) ?_; intro v1 w1 o1 g1; rw [Nat.zero_add, List.nil_append] at o1; have B1 := made_grown g1; clear g1 X1 x0 x1 x2 x3 x4 x5 xf; have B0 := B1.size; obtain ⟨a2, kap2, rfl, p1, p2, p3, p4⟩ := row_i o1 (by omega); clear p3 o1; have E0 := Lib.hid ((B1.block _ (Array.getElem?_eq_some_iff.1 hM.box).1).trans hM.box); have E1 := Lib.hid ((B1.block _ (Array.getElem?_eq_some_iff.1 hM.box2.out).1).trans hM.box2.out); obtain ⟨x0, x1, x2, x3, x4, x5, xf⟩ := cells6 E0.out; have y0 := p4.cell hm; rw [hg.out] at y0; have yf := IRow.free p4; have l2 := (Array.getElem?_eq_some_iff.1 hM.box2.out).1; have n1 : ¬ a2 = w.heap.size := (by omega); have n2 : ¬ w.heap.size = a2 := (by omega))
      have hT : ∀ W : World, Calls Try.prog 46 #[.bool b] W (fun e w' => e = .returned (.int .i64 n) ∧ w' = W) := fun W => (end_c W b).mono fun e w' ⟨e1, e2⟩ => ⟨by rw [e1, ← q4.out, ← q2.out]; simp [Nr.ended], e2.symm⟩
      have F0 := heap_set ((set_away (j := m) n2 (.int .i64 (x + 1))).trans E0.out) 1 (.slice (some ⟨a2, 0, none⟩) c.wear.length kap2)
      have F1 := (set_away (r := w.heap.size) (g := w.heap.size + 1) (j := 1) (by omega) (.slice (some ⟨a2, 0, none⟩) c.wear.length kap2)).trans ((set_away (r := a2) (g := w.heap.size + 1) (j := m) (w := w1) (by omega) (.int .i64 (x + 1))).trans E1.out)
      have FB := ((Below.then hM.below B1).setCell (p := ⟨a2, m, none⟩) (by show w.heap.size ≤ a2; omega) (.int .i64 (x + 1))).setCell (p := ⟨w.heap.size, 1, none⟩) (Nat.le_refl _) (.slice (some ⟨a2, 0, none⟩) c.wear.length kap2)
      have FI : IRow ((w1.setCell ⟨a2, m, none⟩ (.int .i64 (x + 1))).setCell ⟨w.heap.size, 1, none⟩ (.slice (some ⟨a2, 0, none⟩) c.wear.length kap2)) a2 (c.wear.set m (x + 1)) := by
        obtain ⟨cur, ea, hc⟩ := IRow.set p4 hm (x + 1)
        exact ⟨cur, (set_away n1 _).trans ea, hc⟩
      have nw : w.heap.size ≤ a := hM.new (by decide)
      have al : a < wr.heap.size := hM.row.lt
      have FR : Row ((w1.setCell ⟨a2, m, none⟩ (.int .i64 (x + 1))).setCell ⟨w.heap.size, 1, none⟩ (.slice (some ⟨a2, 0, none⟩) c.wear.length kap2)) a zs := by
        obtain ⟨cur, ea, hc⟩ := hM.row.below B1
        refine ⟨cur, (set_away ?_ _).trans ((set_away (by omega) _).trans ea), hc⟩
        intro d
        rw [d, E0.out] at ea
        cases ea
      generalize (w1.setCell ⟨a2, m, none⟩ (.int .i64 (x + 1))).setCell ⟨w.heap.size, 1, none⟩ (.slice (some ⟨a2, 0, none⟩) c.wear.length kap2) = W2 at F0 F1 FB FI FR ⊢
      have G0 := Lib.hid F0
      have G1 := Lib.hid F1
      clear E0 E1 x0 x1 x2 x3 x4 x5 xf y0 yf F1 B1
      obtain ⟨x0, x1, x2, x3, x4, x5, xf⟩ := cells6 F0
      clear F0
      refine wp_region_still_tail 3 (by kernel_rfl) (by kernel_rfl) ?_
      simp only [List.take_succ_cons, List.take_zero, List.drop_succ_cons, List.drop_zero]
      repeat still_step
      still_call (hT _)
      refine wpStill_nil ?_
      change wpList _ _ _ _ _ W2.drew
      obtain ⟨y0, y1, y2, y3, y4, y5, yf⟩ := cells6 G1.out
      clear hT
      go_wp2
      have hlen := hM.len
      have ho' : c'.ok := by rw [← q3.out]; exact Nr.erase_ok h.ok (by rw [Int.toNat_natCast, hg.out]; exact hx)
      have hc' : c' = { c with words := zs, wear := c.wear.set m (x + 1), fuse := f, off := b } := by rw [← q3.out, erase_eq hg.out q1 q2, hM.eq.out]
      have hcap := hM.cap
      clear hM q3
      subst hc'
      refine bodyPost_ret (retC2 rfl _ _ (w.heap.size + 1) _ _ rfl rfl (drew_heap (put6 G1.out _ _ _ _ _ _)) rfl) rfl ⟨a, kap, a2, kap2, ?_, ⟨ho', ?_, ?_, ?_, ?_⟩, nw, by omega, ?_⟩
      · simp only [hlen, List.length_set]
        rfl
      · show zs.length ≤ kap
        omega
      · simpa using p1
      · obtain ⟨cur, ea, hc⟩ := FR
        refine ⟨cur, drew_heap ((put6_away ?_ _ _ _ _ _ _).trans ea), hc⟩
        intro d
        rw [d, G1.out] at ea
        cases ea
      · obtain ⟨cur, ea, hc⟩ := FI
        refine ⟨cur, drew_heap ((put6_away ?_ _ _ _ _ _ _).trans ea), hc⟩
        intro d
        rw [d, G1.out] at ea
        cases ea
      · exact drew_below (put6_below FB (by omega) _ _ _ _ _ _)
end Rnor
end Go.Proofs.Ytmaakjabjpppkaa

/- The reference's chip: what is wrong with a place, a fuse that burns, a word that is changed. -/
import Derived.Test.YtmaakjabjpppkaaRnor
import Derived.Test.YtmaakjabjpppkaaRef1
import Derived.BigRegion
import Derived.Laws.Rows
namespace Go.Proofs.Ytmaakjabjpppkaa
open Go.RowKit
set_option linter.unusedVariables false
attribute [local go_sem] max2_int min2_int max_two min_two
/-- Numbers in a block. -/
def IRow (w : World) (a : Nat) (zs : List Int) : Prop := ∃ cur, w.heap[a]? = some (.cells cur 3 (0, 0)) ∧ ∀ i, i < zs.length → cur[i]? = some (.int .i64 (zs.getD i 0))
theorem IRow.cell {w : World} {a : Nat} {zs : List Int} (h : IRow w a zs) {i : Nat} (hi : i < zs.length) : w.cell? ⟨a, i, none⟩ = some (.int .i64 (zs.getD i 0)) := by
  obtain ⟨cur, e, hc⟩ := h
  simp only [World.cell?, e]; exact hc i hi
theorem IRow.lt {w : World} {a : Nat} {zs : List Int} (h : IRow w a zs) : a < w.heap.size := by
  obtain ⟨cur, e, hc⟩ := h
  exact (Array.getElem?_eq_some_iff.1 e).1
theorem IRow.keep {w w' : World} {S : Nat → Prop} {a : Nat} {zs : List Int} (h : IRow w a zs) (hk : Keep S w w') (hn : ¬ S a) : IRow w' a zs := by
  have l := h.lt
  obtain ⟨cur, e, hc⟩ := h
  exact ⟨cur, by rw [hk.block a l hn]; exact e, hc⟩
theorem IRow.below {w w' : World} {a : Nat} {zs : List Int} (h : IRow w a zs) (hb : Below w.heap.size w w') : IRow w' a zs :=
  h.keep (S := fun _ => False) ⟨hb.os, hb.tape, hb.output, hb.size, fun k hk _ => hb.block k hk⟩ id
namespace Rnor
/-- The reference's chip as a value. -/
def rv (bw kw be ke : Nat) (c : Nr.C) : Value := .agg #[.slice (some ⟨bw, 0, none⟩) c.words.length kw, .slice (some ⟨be, 0, none⟩) c.wear.length ke, .int .i64 c.endure, .int .i64 c.fuse, .int .u32 c.pick, .bool c.off]
/-- Its words and its wear lie in memory. -/
structure RAt (w : World) (bw kw be ke : Nat) (c : Nr.C) : Prop where
  ok : c.ok
  kw : c.words.length ≤ kw
  ke : c.wear.length ≤ ke
  words : Row w bw c.words
  wear : IRow w be c.wear
theorem RAt.below {w w' : World} {bw kw be ke : Nat} {c : Nr.C} (h : RAt w bw kw be ke c) (hb : Below w.heap.size w w') : RAt w' bw kw be ke c := ⟨h.ok, h.kw, h.ke, h.words.below hb, h.wear.below hb⟩
theorem RAt.keep {w w' : World} {S : Nat → Prop} {bw kw be ke : Nat} {c : Nr.C} (h : RAt w bw kw be ke c) (hk : Keep S w w') (h1 : ¬ S bw) (h2 : ¬ S be) : RAt w' bw kw be ke c := ⟨h.ok, h.kw, h.ke, h.words.keep hk h1, h.wear.keep hk h2⟩
theorem underC : Try.prog.underlying 49 = some (.struct (Try.prog.fieldsOf 49)) := by kernel_rfl
theorem sizeC : (Try.prog.info? 49).map (·.size) = some 6 := by kernel_rfl
theorem retC {fn : Func} {p : Tmp} (h : fn.results = #[.cell p 49]) (tmps : Array Value) (w : World) (g : Nat) (cs : Array Value) (hp : tmps.getD p undef = .pointer (some ⟨g, 0, none⟩)) (hg : w.heap[g]? = some (.cells cs 49 (0, 0))) (hs : cs.size = 6) :
    (results fn tmps).run Try.prog w = .ok (.agg cs) w := results_cell_row h tmps w g _ cs _ _ hp hg underC rfl (by rw [sizeC, hs])
theorem retC2 {fn : Func} {p u : Tmp} (h : fn.results = #[.cell p 49, .tmp u]) (tmps : Array Value) (w : World) (g : Nat) (cs : Array Value) (v : Value) (hp : tmps.getD p undef = .pointer (some ⟨g, 0, none⟩)) (hv : tmps.getD u undef = v) (hg : w.heap[g]? = some (.cells cs 49 (0, 0))) (hs : cs.size = 6) :
    (results fn tmps).run Try.prog w = .ok (.tuple #[.agg cs, v]) w := by
  have hp' : tmps[p]?.getD undef = .pointer (some ⟨g, 0, none⟩) := by simpa using hp
  have hv' : tmps[u]?.getD undef = v := by simpa using hv
  have hr := run_loadVar_row (P := Try.prog) w g 49 49 cs (0, 0) _ hg underC rfl (by rw [sizeC, hs])
  simp [results, h, hp', hv', asAddr, hr]
theorem al2 (w : World) (A B : Obj) : Below w.heap.size w ((w.alloc A).alloc B) := ((Below.refl _ _).alloc (Nat.le_refl _) _).alloc (by simp) _
theorem drew_below {B : Nat} {w0 w : World} (h : Below B w0 w) : Below B w0 w.drew := ⟨h.os, h.tape, h.output, h.size, h.block⟩
theorem wrong_c {w : World} {bw kw be ke : Nat} {c : Nr.C} (h : c.ok) (at_ many : Int) :
    Calls Try.prog 42 #[rv bw kw be ke c, .int .i64 at_, .int .i64 many] w fun e w' => e = .returned (.int .i64 (Nr.wrong c at_ many)) ∧ Below w.heap.size w w' := by
  have s1 : (1 : Int) ≤ (c.wear.length : Int) := by have := h.some_; omega
  have s0 : (c.words.length : Int) = 64 * (c.wear.length : Int) := by have := h.size; omega
  have s3 : ((c.words.length : Int) == 0) = false := by rw [beq_eq_false_iff_ne]; omega
  unfold rv
  by_cases ho : c.off = true
  · have E := Lib.hid (show Nr.wrong c at_ many = 4 from if_pos ho)
    go_enter Try.func42, Try.ntmps42
    go_wp2
    go_ret
    exact ⟨by rw [E.out]; rfl, (Below.refl _ _).alloc (Nat.le_refl _) _⟩
  · have ho' : c.off = false := by simpa using ho
    clear ho
    by_cases h1 : at_ < 0
    · have E := Lib.hid (show Nr.wrong c at_ many = 3 by unfold Nr.wrong; rw [if_neg (by simp [ho']), if_pos (.inl h1)])
      go_enter Try.func42, Try.ntmps42
      go_wp2
      go_ret
      exact ⟨by rw [E.out]; rfl, (Below.refl _ _).alloc (Nat.le_refl _) _⟩
    · by_cases h2 : many ≤ at_
      · have E := Lib.hid (show Nr.wrong c at_ many = 3 by unfold Nr.wrong; rw [if_neg (by simp [ho']), if_pos (.inr h2)])
        go_enter Try.func42, Try.ntmps42
        go_wp2
        go_ret
        exact ⟨by rw [E.out]; rfl, (Below.refl _ _).alloc (Nat.le_refl _) _⟩
      · have E := Lib.hid (show Nr.wrong c at_ many = 0 by unfold Nr.wrong; rw [if_neg (by simp [ho']), if_neg (by omega)])
        go_enter Try.func42, Try.ntmps42
        go_wp2
        go_ret
        exact ⟨by rw [E.out]; rfl, (Below.refl _ _).alloc (Nat.le_refl _) _⟩
theorem end_c (w : World) (b : Bool) : Calls Try.prog 46 #[.bool b] w fun e w' => e = .returned (.int .i64 (if b = true then 4 else 0)) ∧ w = w' := by
  cases b
  all_goals
    go_enter Try.func46, Try.ntmps46
    go_wp2
    go_ret
    exact ⟨rfl, rfl⟩
theorem burnt_c {w : World} {bw kw be ke : Nat} {c : Nr.C} (h : c.ok) (ho : c.off = false) :
    Calls Try.prog 43 #[rv bw kw be ke c] w fun e w' => e = .returned (.tuple #[rv bw kw be ke { c with fuse := max (c.fuse - 1) 0, off := decide (c.fuse = 1) }, .bool (decide (c.fuse = 1))]) ∧ Below w.heap.size w w' := by
  have f0 := h.fuse_lo
  have f1 := Lib.hid h.fuse_hi
  unfold rv
  by_cases z : c.fuse = 0
  · go_enter Try.func43, Try.ntmps43
    go_wp2
    refine bodyPost_ret (retC2 rfl _ _ (w.heap.size + 1) _ _ rfl rfl (heap_alloc2_new _ _ _) rfl) rfl ⟨?_, al2 _ _ _⟩
    simp [z]
    rfl
  · go_enter Try.func43, Try.ntmps43
    have hwr : wrap64 (c.fuse - 1) = c.fuse - 1 := IntWalk.wrap64_in _ (by have := f1.out; omega)
    go_wp2
    go_region
    go_wp2
    refine bodyPost_ret (retC2 rfl _ _ (w.heap.size + 1) _ _ rfl rfl (heap_alloc2_new _ _ _) rfl) rfl ⟨?_, drew_below (al2 _ _ _)⟩
    have e1 : max (c.fuse - 1) 0 = c.fuse - 1 := by omega
    have e2 : (c.fuse - 1 == 0) = decide (c.fuse = 1) := by
      by_cases d : c.fuse = 1
      · rw [d]; rfl
      · rw [decide_eq_false d, beq_eq_false_iff_ne]; omega
    rw [e1, ← e2]
    rfl
end Rnor
end Go.Proofs.Ytmaakjabjpppkaa

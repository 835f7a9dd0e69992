/- Contracts of package cfi (8): New, Reset; flashes that no call made; dioptralaw03.Begin. -/
import Derived.Test.YtfghlfolejpjjaaCfi7
namespace Go.Proofs.Ytfghlfolejpjjaa
open Go.RowKit Go.Maps
set_option linter.unusedVariables false
attribute [local go_sem] max2_int min2_int max_two min_two
namespace Cfi
section
variable {w0 w : World} {S : Nat → Prop} {gf g bw be : Nat} {s : Cf.Fl} {c c' : Nr.C}
theorem fresh {mb : Nat} (hO : Own w0 w g bw be c) (lo : ∀ k, S k → w0.heap.size ≤ k) (hi : ∀ k, S k → k < w.heap.size) (mem : S gf ∧ S g ∧ S bw ∧ S be) (f1 : gf ≠ g ∧ gf ≠ bw ∧ gf ≠ be) (lm : S mb) (m1 : mb ≠ gf ∧ mb ≠ g ∧ mb ≠ bw ∧ mb ≠ be)
    (hg : w.heap[gf]? = some (.cells #[.pointer (some ⟨g, 0, none⟩), .int .i64 0, .nilFunc, .int .u32 0, .map (some mb), .pointer none] 95 (0, 0))) (hL : Locks w mb fun _ => false) : FlashX S w0 w gf g bw be (Cf.new c) :=
  ⟨hO, Cf.new_ok c, lo, hi, mem, f1, mb, _, lm, m1.1, m1.2.1, m1.2.2.1, m1.2.2.2, hg, hL, rfl⟩
set_option maxRecDepth 100000 in
theorem new_c (hO : Own w0 w g bw be c) (lo : ∀ k, S k → w0.heap.size ≤ k) (hi : ∀ k, S k → k < w.heap.size) (mem : S g ∧ S bw ∧ S be) : Calls Try.prog 47 #[.pointer (some ⟨g, 0, none⟩)] w fun e w' => ∃ gf, e = .returned (.pointer (some ⟨gf, 0, none⟩)) ∧ FlashX (Sx S w w') w0 w' gf g bw be (Cf.new c) := by
  have hmm := @run_makeMap Try.prog
  have s1 : (1 : Int) ≤ (c.wear.length : Int) := by have := hO.chip.ok.some_; omega
  have s3 : ((c.wear.length : Int) == 0) = false := by rw [beq_eq_false_iff_ne]; omega
  have hU := hO.chip
  go_enter Try.func47, Try.ntmps47
  go_wp2_with (go_at_call 41; refine (Nor.blocks_c hU).mono ?_; rintro e w' ⟨rfl, rfl⟩)
  go_ret
  obtain ⟨a, b, d⟩ := hU.lt
  have l := hO.below.size
  have b1 := (Below.refl _ w).alloc (Nat.le_refl _) (.map #[] 0)
  have e1 : (w.alloc (.map #[] 0)).heap.size = w.heap.size + 1 := by simp
  have b2 := (Below.refl _ (w.alloc (.map #[] 0))).alloc (Nat.le_refl _) (.cells #[.pointer (some ⟨g, 0, none⟩), .int .i64 0, .nilFunc, .int .u32 0, .map (some w.heap.size), .pointer none] 95)
  have hg := heap_alloc_new (w.alloc (.map #[] 0)) (.cells #[.pointer (some ⟨g, 0, none⟩), .int .i64 0, .nilFunc, .int .u32 0, .map (some w.heap.size), .pointer none] 95)
  rw [e1] at hg
  have nS : ∀ k, w.heap.size ≤ k → ¬ S k := fun k hk hs => absurd (hi k hs) (by omega)
  refine ⟨_, rfl, fresh (S := Sx S w _) ((hO.then b1).then b2) (fun k hk => hk.elim (lo k) (fun e => Nat.le_trans l e.1)) (fun k hk => hk.elim (fun e => by have := hi k e; simp; omega) (·.2)) ⟨.inr ⟨by omega, by simp⟩, .inl mem.1, .inl mem.2.1, .inl mem.2.2⟩ ⟨by omega, by omega, by omega⟩ (.inr ⟨Nat.le_refl _, by simp; omega⟩) ⟨by omega, by omega, by omega, by omega⟩ hg (Cfi.Locks.alloc (Locks.made w) _)⟩
set_option maxRecDepth 100000 in
theorem reset_c (h : FlashX S w0 w gf g bw be s) : Calls Try.prog 31 #[.pointer (some ⟨gf, 0, none⟩)] w fun e w' => e = .returned (.tuple #[]) ∧ FlashX (Sx S w w') w0 w' gf g bw be (Cf.reset s) ∧ Keep S w w' := by
  have hmm := @run_makeMap Try.prog
  obtain ⟨mb, jp, hL, hJ, c0, c1, c2, c3, c4, c5⟩ := h.cells
  have h1 := h.then ((Below.refl _ w).alloc (Nat.le_refl _) (.map #[] 0))
  obtain ⟨_, _, _, _, d0, d1, d2, d3, d4, d5⟩ := h1.cells
  have f0 := h1.free 0
  have f1 := h1.free 1
  have f2 := h1.free 2
  have f3 := h1.free 3
  have f4 := h1.free 4
  have f5 := h1.free 5
  go_enter Try.func31, Try.ntmps31
  go_wp2_with (go_at_call 53; refine (good_c h).mono ?_; rintro e w' ⟨rfl, rfl⟩)
  go_end0
  obtain ⟨a, b, d⟩ := h.own.chip.lt
  have l := h.own.below.size
  have ff := h.f1
  have mm := h.mem
  have hgf := h.hi _ mm.1
  have lf := h.lo _ mm.1
  obtain ⟨mb2, jp2, m1, m3, m4, m5, m6, hg, _, _⟩ := h1.body
  have K1 := ((((((Keep.refl (fun k => k = gf) (w.alloc (.map #[] 0))).setCell (p := ⟨gf, 0, none⟩) (.inl rfl) (.pointer (some ⟨g, 0, none⟩))).setCell (p := ⟨gf, 1, none⟩) (.inl rfl) (.int .i64 0)).setCell (p := ⟨gf, 2, none⟩) (.inl rfl) .nilFunc).setCell (p := ⟨gf, 3, none⟩) (.inl rfl) (.int .u32 0)).setCell (p := ⟨gf, 4, none⟩) (.inl rfl) (.map (some w.heap.size))).setCell (p := ⟨gf, 5, none⟩) (.inl rfl) (.pointer none)
  have hg6 := heap_set (heap_set (heap_set (heap_set (heap_set (heap_set hg 0 (.pointer (some ⟨g, 0, none⟩))) 1 (.int .i64 0)) 2 .nilFunc) 3 (.int .u32 0)) 4 (.map (some w.heap.size))) 5 (.pointer none)
  have K2 := ((Keep.refl (fun k => k = gf) w).alloc (.map #[] 0)).trans K1
  have e1 : (w.alloc (.map #[] 0)).heap.size = w.heap.size + 1 := by simp
  refine ⟨rfl, ?_, K2.mono fun k _ e => e ▸ mm.1⟩
  have hO : Own w0 _ g bw be s.c := ⟨h.own.chip.keep K2 (by omega) (by omega) (by omega), h.own.lg, h.own.lw, h.own.le, ⟨K2.os.trans h.own.below.os, K2.tape.trans h.own.below.tape, K2.output.trans h.own.below.output, Nat.le_trans h.own.below.size K2.size, fun k hk => (K2.block k (by omega) (by omega)).trans (h.own.below.block k hk)⟩⟩
  have sz := K1.size
  refine fresh (S := Sx S w _) (mb := w.heap.size) hO (fun k hk => hk.elim (h.lo k) (fun e => Nat.le_trans l e.1)) (fun k hk => hk.elim (fun e => Nat.lt_of_lt_of_le (h.hi k e) K2.size) (·.2)) ⟨.inl mm.1, .inl mm.2.1, .inl mm.2.2.1, .inl mm.2.2.2⟩ ff (.inr ⟨Nat.le_refl _, by omega⟩) ⟨by omega, by omega, by omega, by omega⟩ ?_ ?_
  · rw [hg6]; rfl
  · exact (Locks.made w).kept (K1.block w.heap.size (by omega) (by omega))
end

/-- No flash, or a struct of zeros. -/
def DeadF (w : World) (p : Option Addr) : Prop := p = none ∨ ∃ g, p = some ⟨g, 0, none⟩ ∧ w.heap[g]? = some (.cells #[.pointer none, .int .i64 0, .nilFunc, .int .u32 0, .map none, .pointer none] 95 (0, 0))
theorem DeadF.below {w w' : World} {p : Option Addr} (h : DeadF w p) (hb : Below w.heap.size w w') : DeadF w' p := by
  rcases h with h | ⟨g, h, hg⟩
  · exact .inl h
  · exact .inr ⟨g, h, by rw [hb.block g (Array.getElem?_eq_some_iff.1 hg).1]; exact hg⟩
theorem good_d {w : World} {p : Option Addr} (h : DeadF w p) : Calls Try.prog 53 #[.pointer p] w fun e w' => e = .returned (.bool false) ∧ w = w' := by
  rcases h with rfl | ⟨g, rfl, hg⟩
  · go_enter Try.func53, Try.ntmps53
    go_wp2
    go_ret
    exact ⟨rfl, rfl⟩
  · have c1 : w.cell? ⟨g, 0, none⟩ = some (.pointer none) := by simp only [World.cell?, hg]; rfl
    go_enter Try.func53, Try.ntmps53
    go_wp2
    go_ret
    exact ⟨rfl, rfl⟩
theorem check_d {w : World} {p : Option Addr} (h : DeadF w p) (a : Int) : Calls Try.prog 57 #[.pointer p, .int .i64 a] w fun e w' => e = .returned (.int .i64 1) ∧ w = w' := by
  go_enter Try.func57, Try.ntmps57
  go_wp2_with (go_at_call 53; refine (good_d h).mono ?_; rintro e w' ⟨rfl, rfl⟩)
  go_ret
  exact ⟨rfl, rfl⟩
theorem reset_d {w : World} {p : Option Addr} (h : DeadF w p) : Calls Try.prog 31 #[.pointer p] w fun e w' => e = .returned (.tuple #[]) ∧ w = w' := by
  go_enter Try.func31, Try.ntmps31
  go_wp2_with (go_at_call 53; refine (good_d h).mono ?_; rintro e w' ⟨rfl, rfl⟩)
  go_end0
  exact ⟨rfl, rfl⟩
theorem status_d {w : World} {p : Option Addr} (h : DeadF w p) : Calls Try.prog 55 #[.pointer p] w fun e w' => e = .returned (.int .u32 0) ∧ w = w' := by
  go_enter Try.func55, Try.ntmps55
  go_wp2_with (go_at_call 53; refine (good_d h).mono ?_; rintro e w' ⟨rfl, rfl⟩)
  go_ret
  exact ⟨rfl, rfl⟩
theorem read_d {w : World} {p : Option Addr} (h : DeadF w p) (a : Int) : Calls Try.prog 43 #[.pointer p, .int .i64 a] w fun e w' => e = .returned (.tuple #[.int .u32 0, .int .i64 1]) ∧ w = w' := by
  go_enter Try.func43, Try.ntmps43
  go_wp2_with (go_at_call 57; refine (check_d h _).mono ?_; rintro e w' ⟨rfl, rfl⟩)
  go_ret2
  exact ⟨rfl, rfl⟩
theorem write_d {w : World} {p : Option Addr} (h : DeadF w p) (a v : Int) : Calls Try.prog 54 #[.pointer p, .int .i64 a, .int .u32 v] w fun e w' => e = .returned (.int .i64 1) ∧ w = w' := by
  go_enter Try.func54, Try.ntmps54
  go_wp2_with (go_at_call 57; refine (check_d h _).mono ?_; rintro e w' ⟨rfl, rfl⟩)
  go_ret
  exact ⟨rfl, rfl⟩
theorem tick_d {w : World} {p : Option Addr} (h : DeadF w p) (a : Int) : Calls Try.prog 56 #[.pointer p, .int .i64 a] w fun e w' => e = .returned (.int .i64 1) ∧ w = w' := by
  go_enter Try.func56, Try.ntmps56
  go_wp2_with (go_at_call 57; refine (check_d h _).mono ?_; rintro e w' ⟨rfl, rfl⟩)
  go_ret
  exact ⟨rfl, rfl⟩
theorem new_d {w : World} {p : Option Addr} (h : Dead w p) : Calls Try.prog 47 #[.pointer p] w fun e w' => e = .returned (.pointer none) ∧ w = w' := by
  go_enter Try.func47, Try.ntmps47
  go_wp2_with (go_at_call 41; refine (Nor.blocks_d h).mono ?_; rintro e w' ⟨rfl, rfl⟩)
  go_ret
  exact ⟨rfl, rfl⟩
/-- All that is new since w. -/
def New (w w' : World) (k : Nat) : Prop := w.heap.size ≤ k ∧ k < w'.heap.size
theorem begin_c {w0 w : World} (h : Below w0.heap.size w0 w) {n : Nat} {endure : Int} {c : Nr.C} (h1 : 1 ≤ n) (h2 : n ≤ 64) (he : 0 ≤ endure) (he2 : Hid (endure ≤ 9223372036854775807)) (q : Hid (Nr.new n endure = c)) :
    Calls Try.prog 20 #[.int .i64 n, .int .i64 endure] w fun e w' => ∃ g bw be gf, e = .returned (.tuple #[.pointer (some ⟨g, 0, none⟩), .pointer (some ⟨gf, 0, none⟩)]) ∧ FlashX (New w w') w0 w' gf g bw be (Cf.new c) := by
  have hn := Nor.new_c (w := w) h1 h2 he he2.out
  rw [q.out] at hn
  have sz := h.size
  go_enter Try.func20, Try.ntmps20
  go_wp2_with (first | (go_at_call 46; refine hn.mono ?_; rintro e w1 ⟨g, bw, be, rfl, p1, p2, p3, p4, p5⟩; clear hn; have hO : Own w0 w1 g bw be c := ⟨p1, by omega, by omega, by omega, Below.then h p5⟩; have lt := p1.lt) |
    (go_at_call 47; refine (new_c (S := New w w1) hO (fun k hk => Nat.le_trans sz hk.1) (fun k hk => hk.2) ⟨⟨p2, lt.1⟩, ⟨p3, lt.2.1⟩, ⟨p4, lt.2.2⟩⟩).mono ?_; rintro e w2 ⟨gf, rfl, hF⟩; clear hO))
  go_ret2
  have s1 := p5.size
  exact ⟨g, bw, be, gf, rfl, hF.lift (fun k hk => by unfold Sx New at hk; unfold New; have := hF.hi; rcases hk with hk | hk; exact ⟨hk.1, hF.hi k (.inl hk)⟩; exact ⟨by omega, hk.2⟩) (fun k hk => ⟨Nat.le_trans sz hk.1, hk.2⟩)⟩
end Cfi
end Go.Proofs.Ytfghlfolejpjjaa

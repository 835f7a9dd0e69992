/- The parts: Drv Drv2 Drv3 Drv4 Drv5. -/
import Derived.Test.YtfghlfolejpjjaaCfiO
import Derived.Test.YtfghlfolejpjjaaDr
import Derived.StillTailTactics
/- A driver in memory, and the contracts of package driver (1). -/
namespace Go.Proofs.Ytfghlfolejpjjaa
open Go.RowKit
set_option linter.unusedVariables false
attribute [local go_sem] max2_int min2_int max_two min_two
theorem Keep.trans' {S R : Nat → Prop} {a b c : World} (h : Keep S a b) (k : Keep R b c) (hr : ∀ k, k < a.heap.size → ¬ S k → ¬ R k) : Keep S a c :=
  ⟨k.os.trans h.os, k.tape.trans h.tape, k.output.trans h.output, Nat.le_trans h.size k.size, fun i hi hn => (k.block i (Nat.lt_of_lt_of_le hi h.size) (hr i hi hn)).trans (h.block i hi hn)⟩
/-- The driver at block dd, of the flash at gf. -/
structure DrvAt (S : Nat → Prop) (w0 w : World) (dd gf g bw be : Nat) (blocks ticks : Int) (s : Cf.Fl) : Prop where
  fl : FlashX S w0 w gf g bw be s
  ld : w0.heap.size ≤ dd
  nd : ¬ S dd
  head : w.heap[dd]? = some (.cells #[.pointer (some ⟨gf, 0, none⟩), .int .i64 blocks, .int .i64 ticks] 42 (0, 0))
/-- What a call of the driver's may turn of what there was. -/
def Mine (S : Nat → Prop) (dd : Nat) (k : Nat) : Prop := S k ∨ k = dd
section
variable {S S' : Nat → Prop} {w0 w w' w'' : World} {dd gf g bw be : Nat} {blocks ticks : Int} {s s' : Cf.Fl}
theorem DrvAt.lt (h : DrvAt S w0 w dd gf g bw be blocks ticks s) : dd < w.heap.size := (Array.getElem?_eq_some_iff.1 h.head).1
theorem DrvAt.cells (h : DrvAt S w0 w dd gf g bw be blocks ticks s) : w.cell? ⟨dd, 0, none⟩ = some (.pointer (some ⟨gf, 0, none⟩)) ∧ w.cell? ⟨dd, 1, none⟩ = some (.int .i64 blocks) ∧ w.cell? ⟨dd, 2, none⟩ = some (.int .i64 ticks) := by
  have hg := h.head
  simp only [World.cell?, hg]
  exact ⟨rfl, rfl, rfl⟩
theorem DrvAt.free (h : DrvAt S w0 w dd gf g bw be blocks ticks s) (i : Nat) : w.frozen? ⟨dd, i, none⟩ = false := by
  have hg := h.head
  simp only [World.frozen?, hg]; simp
theorem DrvAt.then (h : DrvAt S w0 w dd gf g bw be blocks ticks s) (hb : Below w.heap.size w w') : DrvAt S w0 w' dd gf g bw be blocks ticks s :=
  ⟨h.fl.then hb, h.ld, h.nd, (hb.block dd h.lt).trans h.head⟩
theorem DrvAt.drewN (h : DrvAt S w0 w dd gf g bw be blocks ticks s) (n : Nat) : DrvAt S w0 (w.drewN n) dd gf g bw be blocks ticks s := h.then (Below.drewN' (Below.refl _ w) n)
theorem DrvAt.lift (h : DrvAt S w0 w dd gf g bw be blocks ticks s) (h1 : ∀ k, S k → S' k) (h2 : ∀ k, S' k → w0.heap.size ≤ k ∧ k < w.heap.size) (h3 : ¬ S' dd) : DrvAt S' w0 w dd gf g bw be blocks ticks s := ⟨h.fl.lift h1 h2, h.ld, h3, h.head⟩
theorem DrvAt.old (h : DrvAt S w0 w dd gf g bw be blocks ticks s) : w0.heap.size ≤ w.heap.size := h.fl.old
theorem DrvAt.notSx (h : DrvAt S w0 w dd gf g bw be blocks ticks s) : ¬ Sx S w w' dd := fun e => e.elim h.nd (fun e => by have := h.lt; omega)
/-- The flash has turned. -/
theorem DrvAt.turn (h : DrvAt S w0 w dd gf g bw be blocks ticks s) (hF : FlashX (Sx S w w') w0 w' gf g bw be s') (hK : Keep S w w') : DrvAt (Sx S w w') w0 w' dd gf g bw be blocks ticks s' :=
  ⟨hF, h.ld, h.notSx, (hK.block dd h.lt h.nd).trans h.head⟩
/-- Only a draw, or new blocks: the set may grow as if they were the flash's. -/
theorem DrvAt.up (h : DrvAt S w0 w dd gf g bw be blocks ticks s) (h' : DrvAt S w0 w' dd gf g bw be blocks ticks s') : DrvAt (Sx S w w') w0 w' dd gf g bw be blocks ticks s' := ⟨h'.fl.up h.old, h'.ld, h.notSx, h'.head⟩
/-- Two calls, one behind the other. -/
theorem Keep.chain (h1 : Keep (Mine S dd) w w') (h2 : Keep (Mine (Sx S w w') dd) w' w'') : Keep (Mine S dd) w w'' :=
  h1.trans' h2 fun k hk hn e => hn (e.elim (fun e => e.elim .inl (fun e => by omega)) .inr)
theorem Sx.join (h1 : w.heap.size ≤ w'.heap.size) (h2 : w'.heap.size ≤ w''.heap.size) {k : Nat} (h : Sx (Sx S w w') w' w'' k) : Sx S w w'' k := by
  rcases h with (h | h) | h
  · exact .inl h
  · exact .inr ⟨h.1, by omega⟩
  · exact .inr ⟨by omega, h.2⟩
theorem DrvAt.join (h0 : DrvAt S w0 w dd gf g bw be blocks ticks s) {b2 t2 : Int} (h : DrvAt (Sx (Sx S w w') w' w'') w0 w'' dd gf g bw be b2 t2 s') (h1 : w.heap.size ≤ w'.heap.size) (h2 : w'.heap.size ≤ w''.heap.size) : DrvAt (Sx S w w'') w0 w'' dd gf g bw be b2 t2 s' :=
  h.lift (fun k hk => Sx.join h1 h2 hk) (fun k hk => hk.elim (fun e => ⟨h0.fl.lo k e, Nat.lt_of_lt_of_le (h0.fl.hi k e) (Nat.le_trans h1 h2)⟩) (fun e => ⟨Nat.le_trans h0.old e.1, e.2⟩)) h0.notSx
theorem DrvAt.lift' {R : Nat → Prop} (h0 : DrvAt S w0 w dd gf g bw be blocks ticks s) {b2 t2 : Int} (h : DrvAt R w0 w' dd gf g bw be b2 t2 s') (hsz : w.heap.size ≤ w'.heap.size) (hR : ∀ k, R k → Sx S w w' k) : DrvAt (Sx S w w') w0 w' dd gf g bw be b2 t2 s' :=
  ⟨h.fl.lift hR (fun k hk => hk.elim (fun e => ⟨h0.fl.lo k e, Nat.lt_of_lt_of_le (h0.fl.hi k e) hsz⟩) (fun e => ⟨Nat.le_trans h0.old e.1, e.2⟩)), h.ld, h0.notSx, h.head⟩
/-- A tick more. -/
theorem DrvAt.tick (h : DrvAt S w0 w dd gf g bw be blocks ticks s) (n : Int) : DrvAt S w0 (w.setCell ⟨dd, 2, none⟩ (.int .i64 n)) dd gf g bw be blocks n s ∧ Keep (fun k => k = dd) w (w.setCell ⟨dd, 2, none⟩ (.int .i64 n)) := by
  have K := (Keep.refl (fun k => k = dd) w).setCell (p := ⟨dd, 2, none⟩) (.inl rfl) (.int .i64 n)
  refine ⟨⟨h.fl.other K (fun k hk e => h.nd (e ▸ hk)) (fun k e => e ▸ h.ld), h.ld, h.nd, ?_⟩, K⟩
  rw [heap_set h.head]; rfl
end
namespace Drv
section
variable {S : Nat → Prop} {w0 w w' : World} {dd gf g bw be : Nat} {blocks ticks : Int} {s s' : Cf.Fl}
theorem good_c (h : DrvAt S w0 w dd gf g bw be blocks ticks s) : Calls Try.prog 35 #[.pointer (some ⟨dd, 0, none⟩)] w fun e w' => e = .returned (.bool true) ∧ w = w' := by
  obtain ⟨c0, c1, c2⟩ := h.cells
  go_enter Try.func35, Try.ntmps35
  go_wp2
  go_ret
  exact ⟨rfl, rfl⟩
theorem blocks_c (h : DrvAt S w0 w dd gf g bw be blocks ticks s) : Calls Try.prog 19 #[.pointer (some ⟨dd, 0, none⟩)] w fun e w' => e = .returned (.int .i64 blocks) ∧ w = w' := by
  obtain ⟨c0, c1, c2⟩ := h.cells
  go_enter Try.func19, Try.ntmps19
  go_wp2_with (go_at_call 35; refine (good_c h).mono ?_; rintro e w' ⟨rfl, rfl⟩)
  go_ret
  exact ⟨rfl, rfl⟩
theorem ticks_c (h : DrvAt S w0 w dd gf g bw be blocks ticks s) : Calls Try.prog 12 #[.pointer (some ⟨dd, 0, none⟩)] w fun e w' => e = .returned (.int .i64 ticks) ∧ w = w' := by
  obtain ⟨c0, c1, c2⟩ := h.cells
  go_enter Try.func12, Try.ntmps12
  go_wp2_with (go_at_call 35; refine (good_c h).mono ?_; rintro e w' ⟨rfl, rfl⟩)
  go_ret
  exact ⟨rfl, rfl⟩
theorem flash_write (h : DrvAt S w0 w dd gf g bw be blocks ticks s) {at_ v e : Int} (hv : 0 ≤ v) (hv' : v < 4294967296) (q : Hid (Cf.write s at_ v = (e, s'))) :
    Calls Try.prog 54 #[.pointer (some ⟨gf, 0, none⟩), .int .i64 at_, .int .u32 v] w fun x w' => x = .returned (.int .i64 e) ∧ DrvAt (Sx S w w') w0 w' dd gf g bw be blocks ticks s' ∧ Keep (Mine S dd) w w' := by
  refine (Cfi.write_c h.fl hv hv').mono ?_
  rintro x w' ⟨rfl, p1, p2⟩
  rw [q.out] at p1 ⊢
  exact ⟨rfl, h.turn p1 p2, p2.mono fun k _ e => .inl e⟩
theorem flash_tick (h : DrvAt S w0 w dd gf g bw be blocks ticks s) {n e : Int} (q : Hid (Cf.tick s n = (e, s'))) :
    Calls Try.prog 56 #[.pointer (some ⟨gf, 0, none⟩), .int .i64 n] w fun x w' => x = .returned (.int .i64 e) ∧ DrvAt (Sx S w w') w0 w' dd gf g bw be blocks ticks s' ∧ Keep (Mine S dd) w w' := by
  refine (Cfi.tick_c h.fl).mono ?_
  rintro x w' ⟨rfl, p1, p2⟩
  rw [q.out] at p1 ⊢
  exact ⟨rfl, h.turn p1 p2, p2.mono fun k _ e => .inl e⟩
theorem flash_read (h : DrvAt S w0 w dd gf g bw be blocks ticks s) {at_ v e : Int} (q : Hid (Cf.read s at_ = (v, e))) :
    Calls Try.prog 43 #[.pointer (some ⟨gf, 0, none⟩), .int .i64 at_] w fun x w' => x = .returned (.tuple #[.int .u32 v, .int .i64 e]) ∧ DrvAt S w0 w' dd gf g bw be blocks ticks s ∧ Below w.heap.size w w' := by
  refine (Cfi.read_c h.fl).mono ?_
  rintro x w' ⟨rfl, p⟩
  rw [q.out]
  exact ⟨rfl, h.then p, p⟩
theorem flash_status (h : DrvAt S w0 w dd gf g bw be blocks ticks s) {v : Int} (q : Hid (Cf.status s = v)) :
    Calls Try.prog 55 #[.pointer (some ⟨gf, 0, none⟩)] w fun x w' => x = .returned (.int .u32 v) ∧ w = w' := by
  refine (Cfi.status_c h.fl).mono ?_
  rintro x w' ⟨rfl, rfl⟩
  rw [q.out]
  exact ⟨rfl, rfl⟩
set_option maxRecDepth 100000 in
theorem write1_c (h : DrvAt S w0 w dd gf g bw be blocks ticks s) {at_ a e : Int} (ha : 0 ≤ a) (ha' : a < 4294967296) {r : Nat} (hr : w.cell? ⟨r, 0, none⟩ = some (.int .u32 a)) (q : Hid (Cf.write s at_ a = (e, s'))) :
    Calls Try.prog 38 #[.pointer (some ⟨dd, 0, none⟩), .int .i64 at_, .slice (some ⟨r, 0, none⟩) 1 1] w fun x w' => x = .returned (.int .i64 e) ∧ DrvAt (Sx S w w') w0 w' dd gf g bw be blocks ticks s' ∧ Keep (Mine S dd) w w' := by
  obtain ⟨c0, c1, c2⟩ := h.cells
  by_cases he : e = 0
  · subst he
    go_enter Try.func38, Try.ntmps38
    go_wp2_with (go_at_call 35; refine (good_c h).mono ?_; rintro e w' ⟨rfl, rfl⟩)
    refine wp_loop_rounds 4 ?_
    rw [rounds_succ]
    go_wp2_with (go_at_call 54; refine (flash_write h ha ha' q).mono ?_; rintro x w' ⟨rfl, p1, p2⟩; clear h)
    rw [rounds_succ]
    go_wp2
    go_ret
    exact ⟨rfl, p1, p2⟩
  · have hb : (e != 0) = true := by simpa using he
    have hb2 : (e == 0) = false := by simpa using he
    clear he
    go_enter Try.func38, Try.ntmps38
    go_wp2_with (go_at_call 35; refine (good_c h).mono ?_; rintro e w' ⟨rfl, rfl⟩)
    refine wp_loop_rounds 4 ?_
    rw [rounds_succ]
    go_wp2_with (go_at_call 54; refine (flash_write h ha ha' q).mono ?_; rintro x w' ⟨rfl, p1, p2⟩; clear h)
    go_ret
    exact ⟨rfl, p1, p2⟩
set_option maxHeartbeats 1000000 in
set_option maxRecDepth 100000 in
theorem write2_c (h : DrvAt S w0 w dd gf g bw be blocks ticks s) {at_ a b e : Int} (ha : 0 ≤ a) (ha' : a < 4294967296) (hb : 0 ≤ b) (hb' : b < 4294967296) {r : Nat} (hr0 : ¬ Mine S dd r) (hr : w.cell? ⟨r, 0, none⟩ = some (.int .u32 a)) (hr2 : w.cell? ⟨r, 1, none⟩ = some (.int .u32 b)) (q : Hid (Cf.both s at_ a b = (e, s'))) :
    Calls Try.prog 38 #[.pointer (some ⟨dd, 0, none⟩), .int .i64 at_, .slice (some ⟨r, 0, none⟩) 2 2] w fun x w' => x = .returned (.int .i64 e) ∧ DrvAt (Sx S w w') w0 w' dd gf g bw be blocks ticks s' ∧ Keep (Mine S dd) w w' := by
  obtain ⟨c0, c1, c2⟩ := h.cells
  have h0 := h
  obtain ⟨e1, s1, q1⟩ : ∃ e1 s1, Cf.write s at_ a = (e1, s1) := ⟨_, _, rfl⟩
  have Q1 := Lib.hid q1
  by_cases he : e1 = 0
  · subst he
    have q2 : Hid (Cf.write s1 at_ b = (e, s')) := by
      have := q.out
      unfold Cf.both at this
      rw [q1, if_pos rfl] at this
      exact this
    clear q1
    by_cases h2 : e = 0
    · subst h2
      go_enter Try.func38, Try.ntmps38
      go_wp2_with (go_at_call 35; refine (good_c h).mono ?_; rintro e w' ⟨rfl, rfl⟩)
      refine wp_loop_rounds 4 ?_
      rw [rounds_succ]
      go_wp2_with (go_at_call 54; refine (flash_write h ha ha' Q1).mono ?_; rintro x w' ⟨rfl, p1, p2⟩; clear h)
      have c0' := p1.cells.1
      have hr3 := Keep.cell p2 hr2 hr0
      rw [rounds_succ]
      go_wp2_with (go_at_call 54; refine (flash_write p1 hb hb' q2).mono ?_; rintro x w' ⟨rfl, p3, p4⟩; clear p1)
      rw [rounds_succ]
      go_wp2
      go_ret
      exact ⟨rfl, h0.join p3 p2.size p4.size, p2.chain p4⟩
    · have hb1 : (e != 0) = true := by simpa using h2
      have hb2 : (e == 0) = false := by simpa using h2
      clear h2
      go_enter Try.func38, Try.ntmps38
      go_wp2_with (go_at_call 35; refine (good_c h).mono ?_; rintro e w' ⟨rfl, rfl⟩)
      refine wp_loop_rounds 4 ?_
      rw [rounds_succ]
      go_wp2_with (go_at_call 54; refine (flash_write h ha ha' Q1).mono ?_; rintro x w' ⟨rfl, p1, p2⟩; clear h)
      have c0' := p1.cells.1
      have hr3 := Keep.cell p2 hr2 hr0
      rw [rounds_succ]
      go_wp2_with (go_at_call 54; refine (flash_write p1 hb hb' q2).mono ?_; rintro x w' ⟨rfl, p3, p4⟩; clear p1)
      go_ret
      exact ⟨rfl, h0.join p3 p2.size p4.size, p2.chain p4⟩
  · have q2 : e1 = e ∧ s1 = s' := by
      have := q.out
      unfold Cf.both at this
      rw [q1, if_neg he] at this
      exact Prod.mk.inj this
    obtain ⟨rfl, rfl⟩ := q2
    have hb1 : (e1 != 0) = true := by simpa using he
    have hb2 : (e1 == 0) = false := by simpa using he
    clear he q1
    go_enter Try.func38, Try.ntmps38
    go_wp2_with (go_at_call 35; refine (good_c h).mono ?_; rintro e w' ⟨rfl, rfl⟩)
    refine wp_loop_rounds 4 ?_
    rw [rounds_succ]
    go_wp2_with (go_at_call 54; refine (flash_write h ha ha' Q1).mono ?_; rintro x w' ⟨rfl, p1, p2⟩; clear h)
    go_ret
    exact ⟨rfl, p1, p2⟩
end
end Drv
end Go.Proofs.Ytfghlfolejpjjaa

/- Contracts of package driver (2): errors, wait. -/
namespace Go.Proofs.Ytfghlfolejpjjaa
open Go.RowKit
set_option linter.unusedVariables false
attribute [local go_sem] max2_int min2_int max_two min_two
namespace Drv
section
variable {S : Nat → Prop} {w0 w w' : World} {dd gf g bw be : Nat} {blocks ticks : Int} {s s' : Cf.Fl}
set_option maxRecDepth 100000 in
theorem errors_ok (h : DrvAt S w0 w dd gf g bw be blocks ticks s) (hs : Hid (Cf.status s = 128)) : Calls Try.prog 45 #[.pointer (some ⟨dd, 0, none⟩)] w fun e w' => e = .returned (.int .i64 0) ∧ w = w' := by
  obtain ⟨c0, c1, c2⟩ := h.cells
  have e1 : bits .andNot .u32 128 128 = 0 := by decide
  go_enter Try.func45, Try.ntmps45
  go_wp2_with (go_at_call 55; refine (flash_status h hs).mono ?_; rintro e w' ⟨rfl, rfl⟩)
  go_ret
  exact ⟨rfl, rfl⟩

set_option maxHeartbeats 1000000 in
set_option maxRecDepth 100000 in
theorem errors_146 (h : DrvAt S w0 w dd gf g bw be blocks ticks s) (hs : Hid (Cf.status s = 146)) (q : Hid (Cf.write s 0 80 = (0, s'))) : Calls Try.prog 45 #[.pointer (some ⟨dd, 0, none⟩)] w fun e w' => e = .returned (.int .i64 6) ∧ DrvAt (Sx S w w') w0 w' dd gf g bw be blocks ticks s' ∧ Keep (Mine S dd) w w' := by
  obtain ⟨c0, c1, c2⟩ := h.cells
  have h0 := h
  have e1 : bits .andNot .u32 146 128 = 18 := by decide
  have e2 : bits .and .u32 18 2 = 2 := by decide
  have e3 : bits .and .u32 18 32 = 0 := by decide
  have e4 : bits .and .u32 18 16 = 16 := by decide
  have b1 := (Below.refl _ w).alloc (Nat.le_refl _) (.cells #[.int .u32 80] 34)
  have h1 := h.then b1
  have cx := World.cell?_alloc_mark w #[.int .u32 80] 34 (0, 0) 0
  have K0 := (Keep.refl (Mine S dd) w).alloc (.cells #[.int .u32 80] 34)
  go_enter Try.func45, Try.ntmps45
  go_wp2_with (first | (go_at_call 55; refine (flash_status h hs).mono ?_; rintro e w' ⟨rfl, rfl⟩) | (go_at_call 38; refine (write1_c h1 (by decide) (by decide) cx q).mono ?_; rintro e w' ⟨rfl, p1, p2⟩; clear h1))
  go_ret
  have e5 : (w.alloc (.cells #[.int .u32 80] 34)).heap.size = w.heap.size + 1 := by simp
  exact ⟨rfl, h0.lift' p1 (K0.trans p2).size (fun k hk => hk.elim .inl (fun e => .inr ⟨by omega, e.2⟩)), K0.trans p2⟩

set_option maxHeartbeats 1000000 in
set_option maxRecDepth 100000 in
theorem errors_162 (h : DrvAt S w0 w dd gf g bw be blocks ticks s) (hs : Hid (Cf.status s = 162)) (q : Hid (Cf.write s 0 80 = (0, s'))) : Calls Try.prog 45 #[.pointer (some ⟨dd, 0, none⟩)] w fun e w' => e = .returned (.int .i64 6) ∧ DrvAt (Sx S w w') w0 w' dd gf g bw be blocks ticks s' ∧ Keep (Mine S dd) w w' := by
  obtain ⟨c0, c1, c2⟩ := h.cells
  have h0 := h
  have e1 : bits .andNot .u32 162 128 = 34 := by decide
  have e2 : bits .and .u32 34 2 = 2 := by decide
  have e3 : bits .and .u32 34 32 = 32 := by decide
  have e4 : bits .and .u32 34 16 = 0 := by decide
  have b1 := (Below.refl _ w).alloc (Nat.le_refl _) (.cells #[.int .u32 80] 34)
  have h1 := h.then b1
  have cx := World.cell?_alloc_mark w #[.int .u32 80] 34 (0, 0) 0
  have K0 := (Keep.refl (Mine S dd) w).alloc (.cells #[.int .u32 80] 34)
  go_enter Try.func45, Try.ntmps45
  go_wp2_with (first | (go_at_call 55; refine (flash_status h hs).mono ?_; rintro e w' ⟨rfl, rfl⟩) | (go_at_call 38; refine (write1_c h1 (by decide) (by decide) cx q).mono ?_; rintro e w' ⟨rfl, p1, p2⟩; clear h1))
  go_ret
  have e5 : (w.alloc (.cells #[.int .u32 80] 34)).heap.size = w.heap.size + 1 := by simp
  exact ⟨rfl, h0.lift' p1 (K0.trans p2).size (fun k hk => hk.elim .inl (fun e => .inr ⟨by omega, e.2⟩)), K0.trans p2⟩

set_option maxHeartbeats 1000000 in
set_option maxRecDepth 100000 in
theorem errors_160 (h : DrvAt S w0 w dd gf g bw be blocks ticks s) (hs : Hid (Cf.status s = 160)) (q : Hid (Cf.write s 0 80 = (0, s'))) : Calls Try.prog 45 #[.pointer (some ⟨dd, 0, none⟩)] w fun e w' => e = .returned (.int .i64 5) ∧ DrvAt (Sx S w w') w0 w' dd gf g bw be blocks ticks s' ∧ Keep (Mine S dd) w w' := by
  obtain ⟨c0, c1, c2⟩ := h.cells
  have h0 := h
  have e1 : bits .andNot .u32 160 128 = 32 := by decide
  have e2 : bits .and .u32 32 2 = 0 := by decide
  have e3 : bits .and .u32 32 32 = 32 := by decide
  have e4 : bits .and .u32 32 16 = 0 := by decide
  have b1 := (Below.refl _ w).alloc (Nat.le_refl _) (.cells #[.int .u32 80] 34)
  have h1 := h.then b1
  have cx := World.cell?_alloc_mark w #[.int .u32 80] 34 (0, 0) 0
  have K0 := (Keep.refl (Mine S dd) w).alloc (.cells #[.int .u32 80] 34)
  go_enter Try.func45, Try.ntmps45
  go_wp2_with (first | (go_at_call 55; refine (flash_status h hs).mono ?_; rintro e w' ⟨rfl, rfl⟩) | (go_at_call 38; refine (write1_c h1 (by decide) (by decide) cx q).mono ?_; rintro e w' ⟨rfl, p1, p2⟩; clear h1))
  go_ret
  have e5 : (w.alloc (.cells #[.int .u32 80] 34)).heap.size = w.heap.size + 1 := by simp
  exact ⟨rfl, h0.lift' p1 (K0.trans p2).size (fun k hk => hk.elim .inl (fun e => .inr ⟨by omega, e.2⟩)), K0.trans p2⟩
end
end Drv
end Go.Proofs.Ytfghlfolejpjjaa

/- Contracts of package driver (3): wait. -/
namespace Go.Proofs.Ytfghlfolejpjjaa
open Go.RowKit
set_option linter.unusedVariables false
attribute [local go_sem] max2_int min2_int max_two min_two
namespace Drv
section
variable {S : Nat → Prop} {w0 w w' : World} {dd gf g bw be : Nat} {blocks ticks : Int} {s s' : Cf.Fl}

set_option maxHeartbeats 1000000 in
set_option maxRecDepth 100000 in
theorem wait_146 (h : DrvAt S w0 w dd gf g bw be blocks ticks s) (hs : Hid (Cf.status s = 146)) (q : Hid (Cf.write s 0 80 = (0, s'))) : Calls Try.prog 39 #[.pointer (some ⟨dd, 0, none⟩)] w fun e w' => e = .returned (.int .i64 6) ∧ DrvAt (Sx S w w') w0 w' dd gf g bw be blocks ticks s' ∧ Keep (Mine S dd) w w' := by
  obtain ⟨c0, c1, c2⟩ := h.cells
  have e1 : bits .and .u32 146 128 = 128 := by decide
  go_enter Try.func39, Try.ntmps39
  go_wp2
  refine wp_loop_rounds 3 ?_
  rw [rounds_succ]
  go_wp2_with (first | (go_at_call 55; refine (flash_status h hs).mono ?_; rintro e w' ⟨rfl, rfl⟩) | (go_at_call 45; refine (errors_146 h hs q).mono ?_; rintro e w' ⟨rfl, p1, p2⟩; clear h))
  go_ret
  exact ⟨rfl, p1, p2⟩

set_option maxHeartbeats 1000000 in
set_option maxRecDepth 100000 in
theorem wait_162 (h : DrvAt S w0 w dd gf g bw be blocks ticks s) (hs : Hid (Cf.status s = 162)) (q : Hid (Cf.write s 0 80 = (0, s'))) : Calls Try.prog 39 #[.pointer (some ⟨dd, 0, none⟩)] w fun e w' => e = .returned (.int .i64 6) ∧ DrvAt (Sx S w w') w0 w' dd gf g bw be blocks ticks s' ∧ Keep (Mine S dd) w w' := by
  obtain ⟨c0, c1, c2⟩ := h.cells
  have e1 : bits .and .u32 162 128 = 128 := by decide
  go_enter Try.func39, Try.ntmps39
  go_wp2
  refine wp_loop_rounds 3 ?_
  rw [rounds_succ]
  go_wp2_with (first | (go_at_call 55; refine (flash_status h hs).mono ?_; rintro e w' ⟨rfl, rfl⟩) | (go_at_call 45; refine (errors_162 h hs q).mono ?_; rintro e w' ⟨rfl, p1, p2⟩; clear h))
  go_ret
  exact ⟨rfl, p1, p2⟩

/-- A flash whose job has so much time left. -/
def at_ (s : Cf.Fl) (j : Cf.Jb) (l : Int) : Cf.Fl := { s with job := some { j with left := l } }
set_option maxHeartbeats 4000000 in
set_option maxRecDepth 100000 in
theorem wait_job {j : Cf.Jb} {L : Nat} (h : DrvAt S w0 w dd gf g bw be blocks ticks (at_ s j L)) (hL : 1 ≤ L) (hL2 : L ≤ 20) (t0 : 0 ≤ ticks) (t1 : ticks ≤ 1000000000) (hs : Hid (∀ l, Cf.status (at_ s j l) = 0)) (ht : Hid (∀ l : Int, 1 < l → Cf.tick (at_ s j l) 1 = (0, at_ s j (l - 1))))
    {e r : Int} {s1 s2 : Cf.Fl} (hd : Hid (Cf.tick (at_ s j 1) 1 = (e, s1))) (he : (e = 4 ∧ r = 4 ∧ s1 = s2) ∨ (e = 0 ∧ r = 0 ∧ s1 = s2 ∧ Cf.status s1 = 128) ∨ (e = 0 ∧ r = 5 ∧ Cf.status s1 = 160 ∧ Cf.write s1 0 80 = (0, s2))) :
    Calls Try.prog 39 #[.pointer (some ⟨dd, 0, none⟩)] w fun x w' => x = .returned (.int .i64 r) ∧ DrvAt (Sx S w w') w0 w' dd gf g bw be blocks (ticks + L) s2 ∧ Keep (Mine S dd) w w' := by
  have e1 : bits .and .u32 0 128 = 0 := by decide
  have e2 : bits .and .u32 128 128 = 128 := by decide
  have e3 : bits .and .u32 160 128 = 128 := by decide
  have HE := Lib.hid he
  have h0 := h
  clear he
  go_enter Try.func39, Try.ntmps39
  go_wp2
  go_loopw [3] (fun x wr => (∃ l : Nat, 1 ≤ l ∧ l ≤ L ∧ DrvAt (Sx S w wr) w0 wr dd gf g bw be blocks (ticks + (L : Int) - l) (at_ s j l) ∧ Keep (Mine S dd) w wr) ∨ (e = 0 ∧ DrvAt (Sx S w wr) w0 wr dd gf g bw be blocks (ticks + (L : Int)) s1 ∧ Keep (Mine S dd) w wr)) (fun x wr => (ticks + (L : Int) - intOf ((wr.cell? ⟨dd, 2, none⟩).getD undef)).toNat)
  case atStart => exact .inl ⟨L, hL, Nat.le_refl _, by rw [show ticks + (L : Int) - (L : Int) = ticks by omega]; exact h0.up h0, Keep.refl _ _⟩
  case round =>
    rcases hrel with ⟨l, l1, l2, hD, hK⟩ | ⟨rfl, hD, hK⟩
    · obtain ⟨c0, c1, c2⟩ := hD.cells
      have f2 := hD.free 2
      have c2x := c2
      obtain ⟨t, htt⟩ : ∃ t : Int, ticks + (L : Int) - l = t := ⟨_, rfl⟩
      rw [htt] at hD c2 c2x
      have ht0 : 0 ≤ t := by omega
      have ht1 : t ≤ 1000000020 := by omega
      have htr : t - ticks = (L : Int) - l := by omega
      have hs1 := Lib.hid (hs.out l)
      obtain ⟨hT, hKT⟩ := hD.tick (t + 1)
      have szT : (wr.setCell ⟨dd, 2, none⟩ (.int .i64 (t + 1))).heap.size = wr.heap.size := by simp [World.setCell]
      have K1 : Keep (Mine S dd) w (wr.setCell ⟨dd, 2, none⟩ (.int .i64 (t + 1))) := hK.trans (hKT.mono fun k _ e => .inr e)
      have hsz := hK.size
      have d0 := hT.cells.1
      have HT := Lib.hid hT
      have HK1 := Lib.hid K1
      have HX : Hid (∀ w5 : World, (wr.setCell ⟨dd, 2, none⟩ (.int .i64 (t + 1))).heap.size ≤ w5.heap.size → ∀ k, Sx (Sx S w wr) (wr.setCell ⟨dd, 2, none⟩ (.int .i64 (t + 1))) w5 k → Sx S w w5 k) := by
        intro w5 h5 k hk
        rw [Sx_eq (S := Sx S w wr) (w' := w5) szT] at hk
        rw [szT] at h5
        exact Sx.join hsz h5 hk
      have HN : Hid (∀ k, k < w.heap.size → ¬ Mine S dd k → ¬ Mine (Sx S w wr) dd k) := fun k hk hn e => hn (e.elim (fun e => e.elim .inl (fun e => absurd hk (by omega))) .inr)
      have hD0 := hD
      clear hT K1 hKT hK hD
      by_cases hl1 : 1 < l
      · have q := Lib.hid (ht.out l (by omega))
        go_wp2_with (first | (go_at_call 55; refine (flash_status hD0 hs1).mono ?_; rintro e w' ⟨rfl, rfl⟩) | (go_at_call 56; refine (flash_tick HT.out q).mono ?_; rintro x w5 ⟨rfl, p1, p2⟩; clear HT))
        have c5 := p1.cells.2.2
        go_roundw
        case rel => exact .inl ⟨l - 1, by omega, by omega, by
          rw [show ticks + (L : Int) - ((l - 1 : Nat) : Int) = t + 1 by omega, show ((l - 1 : Nat) : Int) = (l : Int) - 1 by omega]
          exact h0.lift' p1 (HK1.out.trans' p2 HN.out).size (HX.out w5 p2.size), HK1.out.trans' p2 HN.out⟩
        case measure =>
          rw [c5, c2x]; simp [intOf]; omega
      · obtain rfl : l = 1 := by omega
        rcases HE.out with ⟨rfl, rfl, rfl⟩ | ⟨rfl, rfl, rfl, hst⟩ | ⟨rfl, rfl, hst, hwr⟩
        · go_wp2_with (first | (go_at_call 55; refine (flash_status hD0 hs1).mono ?_; rintro e w' ⟨rfl, rfl⟩) | (go_at_call 56; refine (flash_tick HT.out hd).mono ?_; rintro x w5 ⟨rfl, p1, p2⟩; clear HT))
          go_ret
          refine ⟨rfl, ?_, HK1.out.trans' p2 HN.out⟩
          rw [show ticks + (L : Int) = t + 1 by omega]
          exact h0.lift' p1 (HK1.out.trans' p2 HN.out).size (HX.out w5 p2.size)
        · go_wp2_with (first | (go_at_call 55; refine (flash_status hD0 hs1).mono ?_; rintro e w' ⟨rfl, rfl⟩) | (go_at_call 56; refine (flash_tick HT.out hd).mono ?_; rintro x w5 ⟨rfl, p1, p2⟩; clear HT))
          have c5 := p1.cells.2.2
          go_roundw
          case rel => exact .inr ⟨trivial, by
            rw [show ticks + (L : Int) = t + 1 by omega]
            exact h0.lift' p1 (HK1.out.trans' p2 HN.out).size (HX.out w5 p2.size), HK1.out.trans' p2 HN.out⟩
          case measure =>
            rw [c5, c2x]; simp [intOf]; omega
        · go_wp2_with (first | (go_at_call 55; refine (flash_status hD0 hs1).mono ?_; rintro e w' ⟨rfl, rfl⟩) | (go_at_call 56; refine (flash_tick HT.out hd).mono ?_; rintro x w5 ⟨rfl, p1, p2⟩; clear HT))
          have c5 := p1.cells.2.2
          go_roundw
          case rel => exact .inr ⟨trivial, by
            rw [show ticks + (L : Int) = t + 1 by omega]
            exact h0.lift' p1 (HK1.out.trans' p2 HN.out).size (HX.out w5 p2.size), HK1.out.trans' p2 HN.out⟩
          case measure =>
            rw [c5, c2x]; simp [intOf]; omega
    · obtain ⟨c0, c1, c2⟩ := hD.cells
      rcases HE.out with ⟨h4, _⟩ | ⟨_, rfl, rfl, hst⟩ | ⟨_, rfl, hst, hwr⟩
      · exact absurd h4 (by decide)
      · have hst' := Lib.hid hst
        clear hst
        go_wp2_with (first | (go_at_call 55; refine (flash_status hD hst').mono ?_; rintro e w' ⟨rfl, rfl⟩) | (go_at_call 45; refine (errors_ok hD hst').mono ?_; rintro e w' ⟨rfl, rfl⟩))
        go_ret
        exact ⟨rfl, hD, hK⟩
      · have hst' := Lib.hid hst
        have hwr' := Lib.hid hwr
        clear hst hwr
        go_wp2_with (first | (go_at_call 55; refine (flash_status hD hst').mono ?_; rintro e w' ⟨rfl, rfl⟩) | (go_at_call 45; refine (errors_160 hD hst' hwr').mono ?_; rintro e w5 ⟨rfl, p1, p2⟩))
        go_ret
        exact ⟨rfl, h0.join p1 hK.size p2.size, hK.chain p2⟩
end
end Drv
end Go.Proofs.Ytfghlfolejpjjaa

/- Contracts of package driver (4): all. -/
namespace Go.Proofs.Ytfghlfolejpjjaa
open Go.RowKit
set_option linter.unusedVariables false
attribute [local go_sem] max2_int min2_int max_two min_two
namespace Drv

set_option maxHeartbeats 1000000 in
set_option maxRecDepth 100000 in
theorem all_P {w : World} {r dd b0 b1 b2 b3 : Nat} {e1 e2 : Int} {R1 R2 : World → Prop} (c0 : w.cell? ⟨r, 0, none⟩ = some (.func (.func 37) #[] #[.pointer (some ⟨b0, 0, none⟩), .pointer (some ⟨b1, 0, none⟩), .pointer (some ⟨b2, 0, none⟩), .pointer (some ⟨b3, 0, none⟩)])) (c1 : w.cell? ⟨r, 1, none⟩ = some (.func (.func 39) #[.pointer (some ⟨dd, 0, none⟩)] #[]))
    (h1 : Calls Try.prog 37 #[.pointer (some ⟨b0, 0, none⟩), .pointer (some ⟨b1, 0, none⟩), .pointer (some ⟨b2, 0, none⟩), .pointer (some ⟨b3, 0, none⟩)] w fun x w' => x = .returned (.int .i64 e1) ∧ R1 w') (hk : Hid (∀ w', R1 w' → w'.cell? ⟨r, 1, none⟩ = some (.func (.func 39) #[.pointer (some ⟨dd, 0, none⟩)] #[])))
    (h2 : Hid (e1 = 0 → ∀ w1, R1 w1 → Calls Try.prog 39 #[.pointer (some ⟨dd, 0, none⟩)] w1 fun x w' => x = .returned (.int .i64 e2) ∧ R2 w')) :
    Calls Try.prog 36 #[.slice (some ⟨r, 0, none⟩) 2 2] w fun x w' => (e1 ≠ 0 ∧ x = .returned (.int .i64 e1) ∧ R1 w') ∨ (e1 = 0 ∧ x = .returned (.int .i64 e2) ∧ R2 w') := by
  by_cases he : e1 = 0
  · subst he
    by_cases h5 : e2 = 0
    · subst h5
      go_enter Try.func36, Try.ntmps36
      go_wp2
      refine wp_loop_rounds 4 ?_
      rw [rounds_succ]
      go_wp2_with (go_at_call 37; refine h1.mono ?_; rintro x w1 ⟨rfl, r1⟩; clear h1)
      have c1' := hk.out _ r1
      have h3 := h2.out trivial _ r1
      rw [rounds_succ]
      go_wp2_with (go_at_call 39; refine h3.mono ?_; rintro x w2 ⟨rfl, r2⟩; clear h3 r1)
      rw [rounds_succ]
      go_wp2
      go_ret
      exact .inr ⟨trivial, rfl, r2⟩
    · have hb1 : (e2 != 0) = true := by simpa using h5
      have hb2 : (e2 == 0) = false := by simpa using h5
      clear h5
      go_enter Try.func36, Try.ntmps36
      go_wp2
      refine wp_loop_rounds 4 ?_
      rw [rounds_succ]
      go_wp2_with (go_at_call 37; refine h1.mono ?_; rintro x w1 ⟨rfl, r1⟩; clear h1)
      have c1' := hk.out _ r1
      have h3 := h2.out trivial _ r1
      rw [rounds_succ]
      go_wp2_with (go_at_call 39; refine h3.mono ?_; rintro x w2 ⟨rfl, r2⟩; clear h3 r1)
      go_ret
      exact .inr ⟨trivial, rfl, r2⟩
  · have hb1 : (e1 != 0) = true := by simpa using he
    have hb2 : (e1 == 0) = false := by simpa using he
    have HE := Lib.hid he
    clear he
    go_enter Try.func36, Try.ntmps36
    go_wp2
    refine wp_loop_rounds 4 ?_
    rw [rounds_succ]
    go_wp2_with (go_at_call 37; refine h1.mono ?_; rintro x w1 ⟨rfl, r1⟩; clear h1)
    go_ret
    exact .inl ⟨HE.out, rfl, r1⟩

set_option maxHeartbeats 1000000 in
set_option maxRecDepth 100000 in
theorem all_E {w : World} {r dd b0 b1 : Nat} {e1 e2 : Int} {R1 R2 : World → Prop} (c0 : w.cell? ⟨r, 0, none⟩ = some (.func (.func 40) #[] #[.pointer (some ⟨b0, 0, none⟩), .pointer (some ⟨b1, 0, none⟩)])) (c1 : w.cell? ⟨r, 1, none⟩ = some (.func (.func 39) #[.pointer (some ⟨dd, 0, none⟩)] #[]))
    (h1 : Calls Try.prog 40 #[.pointer (some ⟨b0, 0, none⟩), .pointer (some ⟨b1, 0, none⟩)] w fun x w' => x = .returned (.int .i64 e1) ∧ R1 w') (hk : Hid (∀ w', R1 w' → w'.cell? ⟨r, 1, none⟩ = some (.func (.func 39) #[.pointer (some ⟨dd, 0, none⟩)] #[])))
    (h2 : Hid (e1 = 0 → ∀ w1, R1 w1 → Calls Try.prog 39 #[.pointer (some ⟨dd, 0, none⟩)] w1 fun x w' => x = .returned (.int .i64 e2) ∧ R2 w')) :
    Calls Try.prog 36 #[.slice (some ⟨r, 0, none⟩) 2 2] w fun x w' => (e1 ≠ 0 ∧ x = .returned (.int .i64 e1) ∧ R1 w') ∨ (e1 = 0 ∧ x = .returned (.int .i64 e2) ∧ R2 w') := by
  by_cases he : e1 = 0
  · subst he
    by_cases h5 : e2 = 0
    · subst h5
      go_enter Try.func36, Try.ntmps36
      go_wp2
      refine wp_loop_rounds 4 ?_
      rw [rounds_succ]
      go_wp2_with (go_at_call 40; refine h1.mono ?_; rintro x w1 ⟨rfl, r1⟩; clear h1)
      have c1' := hk.out _ r1
      have h3 := h2.out trivial _ r1
      rw [rounds_succ]
      go_wp2_with (go_at_call 39; refine h3.mono ?_; rintro x w2 ⟨rfl, r2⟩; clear h3 r1)
      rw [rounds_succ]
      go_wp2
      go_ret
      exact .inr ⟨trivial, rfl, r2⟩
    · have hb1 : (e2 != 0) = true := by simpa using h5
      have hb2 : (e2 == 0) = false := by simpa using h5
      clear h5
      go_enter Try.func36, Try.ntmps36
      go_wp2
      refine wp_loop_rounds 4 ?_
      rw [rounds_succ]
      go_wp2_with (go_at_call 40; refine h1.mono ?_; rintro x w1 ⟨rfl, r1⟩; clear h1)
      have c1' := hk.out _ r1
      have h3 := h2.out trivial _ r1
      rw [rounds_succ]
      go_wp2_with (go_at_call 39; refine h3.mono ?_; rintro x w2 ⟨rfl, r2⟩; clear h3 r1)
      go_ret
      exact .inr ⟨trivial, rfl, r2⟩
  · have hb1 : (e1 != 0) = true := by simpa using he
    have hb2 : (e1 == 0) = false := by simpa using he
    have HE := Lib.hid he
    clear he
    go_enter Try.func36, Try.ntmps36
    go_wp2
    refine wp_loop_rounds 4 ?_
    rw [rounds_succ]
    go_wp2_with (go_at_call 40; refine h1.mono ?_; rintro x w1 ⟨rfl, r1⟩; clear h1)
    go_ret
    exact .inl ⟨HE.out, rfl, r1⟩

set_option maxHeartbeats 1000000 in
set_option maxRecDepth 100000 in
theorem all_L {w : World} {r dd b0 b1 b2 : Nat} {e1 e2 : Int} {R1 R2 : World → Prop} (c0 : w.cell? ⟨r, 0, none⟩ = some (.func (.func 44) #[] #[.pointer (some ⟨b0, 0, none⟩), .pointer (some ⟨b1, 0, none⟩), .pointer (some ⟨b2, 0, none⟩)])) (c1 : w.cell? ⟨r, 1, none⟩ = some (.func (.func 45) #[.pointer (some ⟨dd, 0, none⟩)] #[]))
    (h1 : Calls Try.prog 44 #[.pointer (some ⟨b0, 0, none⟩), .pointer (some ⟨b1, 0, none⟩), .pointer (some ⟨b2, 0, none⟩)] w fun x w' => x = .returned (.int .i64 e1) ∧ R1 w') (hk : Hid (∀ w', R1 w' → w'.cell? ⟨r, 1, none⟩ = some (.func (.func 45) #[.pointer (some ⟨dd, 0, none⟩)] #[])))
    (h2 : Hid (e1 = 0 → ∀ w1, R1 w1 → Calls Try.prog 45 #[.pointer (some ⟨dd, 0, none⟩)] w1 fun x w' => x = .returned (.int .i64 e2) ∧ R2 w')) :
    Calls Try.prog 36 #[.slice (some ⟨r, 0, none⟩) 2 2] w fun x w' => (e1 ≠ 0 ∧ x = .returned (.int .i64 e1) ∧ R1 w') ∨ (e1 = 0 ∧ x = .returned (.int .i64 e2) ∧ R2 w') := by
  by_cases he : e1 = 0
  · subst he
    by_cases h5 : e2 = 0
    · subst h5
      go_enter Try.func36, Try.ntmps36
      go_wp2
      refine wp_loop_rounds 4 ?_
      rw [rounds_succ]
      go_wp2_with (go_at_call 44; refine h1.mono ?_; rintro x w1 ⟨rfl, r1⟩; clear h1)
      have c1' := hk.out _ r1
      have h3 := h2.out trivial _ r1
      rw [rounds_succ]
      go_wp2_with (go_at_call 45; refine h3.mono ?_; rintro x w2 ⟨rfl, r2⟩; clear h3 r1)
      rw [rounds_succ]
      go_wp2
      go_ret
      exact .inr ⟨trivial, rfl, r2⟩
    · have hb1 : (e2 != 0) = true := by simpa using h5
      have hb2 : (e2 == 0) = false := by simpa using h5
      clear h5
      go_enter Try.func36, Try.ntmps36
      go_wp2
      refine wp_loop_rounds 4 ?_
      rw [rounds_succ]
      go_wp2_with (go_at_call 44; refine h1.mono ?_; rintro x w1 ⟨rfl, r1⟩; clear h1)
      have c1' := hk.out _ r1
      have h3 := h2.out trivial _ r1
      rw [rounds_succ]
      go_wp2_with (go_at_call 45; refine h3.mono ?_; rintro x w2 ⟨rfl, r2⟩; clear h3 r1)
      go_ret
      exact .inr ⟨trivial, rfl, r2⟩
  · have hb1 : (e1 != 0) = true := by simpa using he
    have hb2 : (e1 == 0) = false := by simpa using he
    have HE := Lib.hid he
    clear he
    go_enter Try.func36, Try.ntmps36
    go_wp2
    refine wp_loop_rounds 4 ?_
    rw [rounds_succ]
    go_wp2_with (go_at_call 44; refine h1.mono ?_; rintro x w1 ⟨rfl, r1⟩; clear h1)
    go_ret
    exact .inl ⟨HE.out, rfl, r1⟩
end Drv
end Go.Proofs.Ytfghlfolejpjjaa

/- Contracts of package driver (5): what is done first. -/
namespace Go.Proofs.Ytfghlfolejpjjaa
open Go.RowKit
set_option linter.unusedVariables false
attribute [local go_sem] max2_int min2_int max_two min_two
namespace Drv
section
variable {S : Nat → Prop} {w0 w w' : World} {dd gf g bw be : Nat} {blocks ticks : Int} {s s' : Cf.Fl}
theorem fresh_not (h : DrvAt S w0 w dd gf g bw be blocks ticks s) {k : Nat} (hk : w.heap.size ≤ k) : ¬ Mine S dd k := fun e => e.elim (fun e => by have := h.fl.hi k e; omega) (fun e => by have := h.lt; omega)
set_option maxHeartbeats 1000000 in
set_option maxRecDepth 100000 in
theorem firstP (h : DrvAt S w0 w dd gf g bw be blocks ticks s) {b0 b1 b2 b3 : Nat} {at_ i v e : Int} (c0 : w.cell? ⟨b0, 0, none⟩ = some (.pointer (some ⟨dd, 0, none⟩))) (c1 : w.cell? ⟨b1, 0, none⟩ = some (.int .i64 at_)) (c2 : w.cell? ⟨b2, 0, none⟩ = some (.int .i64 i)) (c3 : w.cell? ⟨b3, 0, none⟩ = some (.int .u32 v))
    (hv : 0 ≤ v) (hv' : v < 4294967296) (ha : -100000000000000 ≤ at_ + i) (ha' : at_ + i ≤ 100000000000000) (q : Hid (Cf.both s (at_ + i) 64 v = (e, s'))) :
    Calls Try.prog 37 #[.pointer (some ⟨b0, 0, none⟩), .pointer (some ⟨b1, 0, none⟩), .pointer (some ⟨b2, 0, none⟩), .pointer (some ⟨b3, 0, none⟩)] w fun x w' => x = .returned (.int .i64 e) ∧ DrvAt (Sx S w w') w0 w' dd gf g bw be blocks ticks s' ∧ Keep (Mine S dd) w w' := by
  have b1' := (Below.refl _ w).alloc (Nat.le_refl _) (.cells #[.int .u32 64, .int .u32 v] 34)
  have h1 := h.then b1'
  have e5 : (w.alloc (.cells #[.int .u32 64, .int .u32 v] 34)).heap.size = w.heap.size + 1 := by simp
  have x0 := World.cell?_alloc_mark w #[.int .u32 64, .int .u32 v] 34 (0, 0) 0
  have x1 := World.cell?_alloc_mark w #[.int .u32 64, .int .u32 v] 34 (0, 0) 1
  have K0 := (Keep.refl (Mine S dd) w).alloc (.cells #[.int .u32 64, .int .u32 v] 34)
  have nr : ¬ Mine S dd w.heap.size := fresh_not h (Nat.le_refl _)
  go_enter Try.func37, Try.ntmps37
  go_wp2_with (go_at_call 38; refine (write2_c h1 (by decide) (by decide) hv hv' nr x0 x1 q).mono ?_; rintro x w5 ⟨rfl, p1, p2⟩; clear h1)
  go_ret
  exact ⟨rfl, h.lift' p1 (K0.trans p2).size (fun k hk => hk.elim .inl (fun e => .inr ⟨by omega, e.2⟩)), K0.trans p2⟩
set_option maxHeartbeats 1000000 in
set_option maxRecDepth 100000 in
theorem firstE (h : DrvAt S w0 w dd gf g bw be blocks ticks s) {b0 b1 : Nat} {b e : Int} (c0 : w.cell? ⟨b0, 0, none⟩ = some (.pointer (some ⟨dd, 0, none⟩))) (c1 : w.cell? ⟨b1, 0, none⟩ = some (.int .i64 b))
    (ha : -100000000000000 ≤ b) (ha' : b ≤ 100000000000000) (q : Hid (Cf.both s (b * 64) 32 208 = (e, s'))) :
    Calls Try.prog 40 #[.pointer (some ⟨b0, 0, none⟩), .pointer (some ⟨b1, 0, none⟩)] w fun x w' => x = .returned (.int .i64 e) ∧ DrvAt (Sx S w w') w0 w' dd gf g bw be blocks ticks s' ∧ Keep (Mine S dd) w w' := by
  have b1' := (Below.refl _ w).alloc (Nat.le_refl _) (.cells #[.int .u32 32, .int .u32 208] 34)
  have h1 := h.then b1'
  have e5 : (w.alloc (.cells #[.int .u32 32, .int .u32 208] 34)).heap.size = w.heap.size + 1 := by simp
  have x0 := World.cell?_alloc_mark w #[.int .u32 32, .int .u32 208] 34 (0, 0) 0
  have x1 := World.cell?_alloc_mark w #[.int .u32 32, .int .u32 208] 34 (0, 0) 1
  have K0 := (Keep.refl (Mine S dd) w).alloc (.cells #[.int .u32 32, .int .u32 208] 34)
  have nr : ¬ Mine S dd w.heap.size := fresh_not h (Nat.le_refl _)
  go_enter Try.func40, Try.ntmps40
  go_wp2_with (go_at_call 38; refine (write2_c h1 (by decide) (by decide) (by decide) (by decide) nr x0 x1 q).mono ?_; rintro x w5 ⟨rfl, p1, p2⟩; clear h1)
  go_ret
  exact ⟨rfl, h.lift' p1 (K0.trans p2).size (fun k hk => hk.elim .inl (fun e => .inr ⟨by omega, e.2⟩)), K0.trans p2⟩
set_option maxHeartbeats 1000000 in
set_option maxRecDepth 100000 in
theorem firstL (h : DrvAt S w0 w dd gf g bw be blocks ticks s) {b0 b1 b2 : Nat} {b v e : Int} (c0 : w.cell? ⟨b0, 0, none⟩ = some (.pointer (some ⟨dd, 0, none⟩))) (c1 : w.cell? ⟨b1, 0, none⟩ = some (.int .i64 b)) (c2 : w.cell? ⟨b2, 0, none⟩ = some (.int .u32 v))
    (hv : 0 ≤ v) (hv' : v < 4294967296) (ha : -100000000000000 ≤ b) (ha' : b ≤ 100000000000000) (q : Hid (Cf.both s (b * 64) 96 v = (e, s'))) :
    Calls Try.prog 44 #[.pointer (some ⟨b0, 0, none⟩), .pointer (some ⟨b1, 0, none⟩), .pointer (some ⟨b2, 0, none⟩)] w fun x w' => x = .returned (.int .i64 e) ∧ DrvAt (Sx S w w') w0 w' dd gf g bw be blocks ticks s' ∧ Keep (Mine S dd) w w' := by
  have b1' := (Below.refl _ w).alloc (Nat.le_refl _) (.cells #[.int .u32 96, .int .u32 v] 34)
  have h1 := h.then b1'
  have e5 : (w.alloc (.cells #[.int .u32 96, .int .u32 v] 34)).heap.size = w.heap.size + 1 := by simp
  have x0 := World.cell?_alloc_mark w #[.int .u32 96, .int .u32 v] 34 (0, 0) 0
  have x1 := World.cell?_alloc_mark w #[.int .u32 96, .int .u32 v] 34 (0, 0) 1
  have K0 := (Keep.refl (Mine S dd) w).alloc (.cells #[.int .u32 96, .int .u32 v] 34)
  have nr : ¬ Mine S dd w.heap.size := fresh_not h (Nat.le_refl _)
  go_enter Try.func44, Try.ntmps44
  go_wp2_with (go_at_call 38; refine (write2_c h1 (by decide) (by decide) hv hv' nr x0 x1 q).mono ?_; rintro x w5 ⟨rfl, p1, p2⟩; clear h1)
  go_ret
  exact ⟨rfl, h.lift' p1 (K0.trans p2).size (fun k hk => hk.elim .inl (fun e => .inr ⟨by omega, e.2⟩)), K0.trans p2⟩
end
end Drv
end Go.Proofs.Ytfghlfolejpjjaa

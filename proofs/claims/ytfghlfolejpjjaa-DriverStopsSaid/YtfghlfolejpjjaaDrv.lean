/- A driver in memory, and the contracts of package driver (1). -/
import Derived.Test.YtfghlfolejpjjaaCfiO
import Derived.Test.YtfghlfolejpjjaaDr
namespace Go.Proofs.Ytfghlfolejpjjaa
open Go.RowKit
set_option linter.unusedVariables false
attribute [local go_sem] max2_int min2_int max_two min_two
theorem Keep.trans' {S R : Nat → Prop} {a b c : World} (h : Keep S a b) (k : Keep R b c) (hr : ∀ k, k < a.heap.size → ¬ S k → ¬ R k) : Keep S a c :=
  ⟨k.os.trans h.os, k.tape.trans h.tape, k.output.trans h.output, Nat.le_trans h.size k.size, fun i hi hn => (k.block i (Nat.lt_of_lt_of_le hi h.size) (hr i hi hn)).trans (h.block i hi hn)⟩
/-- The driver at block dd, of the flash at gf. -/
structure DrvAt (S : Nat → Prop) (w0 w : World) (dd gf g bw be : Nat) (blocks ticks : Int) (s : Cf.Fl) : Prop where
  fl : FlashX S w0 w gf g bw be s
  ld : w0.heap.size ≤ dd
  nd : ¬ S dd
  head : w.heap[dd]? = some (.cells #[.pointer (some ⟨gf, 0, none⟩), .int .i64 blocks, .int .i64 ticks] 42 (0, 0))
/-- What a call of the driver's may turn of what there was. -/
def Mine (S : Nat → Prop) (dd : Nat) (k : Nat) : Prop := S k ∨ k = dd
section
variable {S S' : Nat → Prop} {w0 w w' w'' : World} {dd gf g bw be : Nat} {blocks ticks : Int} {s s' : Cf.Fl}
theorem DrvAt.lt (h : DrvAt S w0 w dd gf g bw be blocks ticks s) : dd < w.heap.size := (Array.getElem?_eq_some_iff.1 h.head).1
theorem DrvAt.cells (h : DrvAt S w0 w dd gf g bw be blocks ticks s) : w.cell? ⟨dd, 0, none⟩ = some (.pointer (some ⟨gf, 0, none⟩)) ∧ w.cell? ⟨dd, 1, none⟩ = some (.int .i64 blocks) ∧ w.cell? ⟨dd, 2, none⟩ = some (.int .i64 ticks) := by
  have hg := h.head
  simp only [World.cell?, hg]
  exact ⟨rfl, rfl, rfl⟩
theorem DrvAt.free (h : DrvAt S w0 w dd gf g bw be blocks ticks s) (i : Nat) : w.frozen? ⟨dd, i, none⟩ = false := by
  have hg := h.head
  simp only [World.frozen?, hg]; simp
theorem DrvAt.then (h : DrvAt S w0 w dd gf g bw be blocks ticks s) (hb : Below w.heap.size w w') : DrvAt S w0 w' dd gf g bw be blocks ticks s :=
  ⟨h.fl.then hb, h.ld, h.nd, (hb.block dd h.lt).trans h.head⟩
theorem DrvAt.drewN (h : DrvAt S w0 w dd gf g bw be blocks ticks s) (n : Nat) : DrvAt S w0 (w.drewN n) dd gf g bw be blocks ticks s := h.then (Below.drewN' (Below.refl _ w) n)
theorem DrvAt.lift (h : DrvAt S w0 w dd gf g bw be blocks ticks s) (h1 : ∀ k, S k → S' k) (h2 : ∀ k, S' k → w0.heap.size ≤ k ∧ k < w.heap.size) (h3 : ¬ S' dd) : DrvAt S' w0 w dd gf g bw be blocks ticks s := ⟨h.fl.lift h1 h2, h.ld, h3, h.head⟩
theorem DrvAt.old (h : DrvAt S w0 w dd gf g bw be blocks ticks s) : w0.heap.size ≤ w.heap.size := h.fl.old
theorem DrvAt.notSx (h : DrvAt S w0 w dd gf g bw be blocks ticks s) : ¬ Sx S w w' dd := fun e => e.elim h.nd (fun e => by have := h.lt; omega)
/-- The flash has turned. -/
theorem DrvAt.turn (h : DrvAt S w0 w dd gf g bw be blocks ticks s) (hF : FlashX (Sx S w w') w0 w' gf g bw be s') (hK : Keep S w w') : DrvAt (Sx S w w') w0 w' dd gf g bw be blocks ticks s' :=
  ⟨hF, h.ld, h.notSx, (hK.block dd h.lt h.nd).trans h.head⟩
/-- Only a draw, or new blocks: the set may grow as if they were the flash's. -/
theorem DrvAt.up (h : DrvAt S w0 w dd gf g bw be blocks ticks s) (h' : DrvAt S w0 w' dd gf g bw be blocks ticks s') : DrvAt (Sx S w w') w0 w' dd gf g bw be blocks ticks s' := ⟨h'.fl.up h.old, h'.ld, h.notSx, h'.head⟩
/-- Two calls, one behind the other. -/
theorem Keep.chain (h1 : Keep (Mine S dd) w w') (h2 : Keep (Mine (Sx S w w') dd) w' w'') : Keep (Mine S dd) w w'' :=
  h1.trans' h2 fun k hk hn e => hn (e.elim (fun e => e.elim .inl (fun e => by omega)) .inr)
theorem Sx.join (h1 : w.heap.size ≤ w'.heap.size) (h2 : w'.heap.size ≤ w''.heap.size) {k : Nat} (h : Sx (Sx S w w') w' w'' k) : Sx S w w'' k := by
  rcases h with (h | h) | h
  · exact .inl h
  · exact .inr ⟨h.1, by omega⟩
  · exact .inr ⟨by omega, h.2⟩
theorem DrvAt.join (h0 : DrvAt S w0 w dd gf g bw be blocks ticks s) {b2 t2 : Int} (h : DrvAt (Sx (Sx S w w') w' w'') w0 w'' dd gf g bw be b2 t2 s') (h1 : w.heap.size ≤ w'.heap.size) (h2 : w'.heap.size ≤ w''.heap.size) : DrvAt (Sx S w w'') w0 w'' dd gf g bw be b2 t2 s' :=
  h.lift (fun k hk => Sx.join h1 h2 hk) (fun k hk => hk.elim (fun e => ⟨h0.fl.lo k e, Nat.lt_of_lt_of_le (h0.fl.hi k e) (Nat.le_trans h1 h2)⟩) (fun e => ⟨Nat.le_trans h0.old e.1, e.2⟩)) h0.notSx
theorem DrvAt.lift' {R : Nat → Prop} (h0 : DrvAt S w0 w dd gf g bw be blocks ticks s) {b2 t2 : Int} (h : DrvAt R w0 w' dd gf g bw be b2 t2 s') (hsz : w.heap.size ≤ w'.heap.size) (hR : ∀ k, R k → Sx S w w' k) : DrvAt (Sx S w w') w0 w' dd gf g bw be b2 t2 s' :=
  ⟨h.fl.lift hR (fun k hk => hk.elim (fun e => ⟨h0.fl.lo k e, Nat.lt_of_lt_of_le (h0.fl.hi k e) hsz⟩) (fun e => ⟨Nat.le_trans h0.old e.1, e.2⟩)), h.ld, h0.notSx, h.head⟩
/-- A tick more. -/
theorem DrvAt.tick (h : DrvAt S w0 w dd gf g bw be blocks ticks s) (n : Int) : DrvAt S w0 (w.setCell ⟨dd, 2, none⟩ (.int .i64 n)) dd gf g bw be blocks n s ∧ Keep (fun k => k = dd) w (w.setCell ⟨dd, 2, none⟩ (.int .i64 n)) := by
  have K := (Keep.refl (fun k => k = dd) w).setCell (p := ⟨dd, 2, none⟩) (.inl rfl) (.int .i64 n)
  refine ⟨⟨h.fl.other K (fun k hk e => h.nd (e ▸ hk)) (fun k e => e ▸ h.ld), h.ld, h.nd, ?_⟩, K⟩
  rw [heap_set h.head]; rfl
end
namespace Drv
section
variable {S : Nat → Prop} {w0 w w' : World} {dd gf g bw be : Nat} {blocks ticks : Int} {s s' : Cf.Fl}
theorem good_c (h : DrvAt S w0 w dd gf g bw be blocks ticks s) : Calls Try.prog 35 #[.pointer (some ⟨dd, 0, none⟩)] w fun e w' => e = .returned (.bool true) ∧ w = w' := by
  obtain ⟨c0, c1, c2⟩ := h.cells
  go_enter Try.func35, Try.ntmps35
  go_wp2
  go_ret
  exact ⟨rfl, rfl⟩
theorem blocks_c (h : DrvAt S w0 w dd gf g bw be blocks ticks s) : Calls Try.prog 19 #[.pointer (some ⟨dd, 0, none⟩)] w fun e w' => e = .returned (.int .i64 blocks) ∧ w = w' := by
  obtain ⟨c0, c1, c2⟩ := h.cells
  go_enter Try.func19, Try.ntmps19
  go_wp2_with (go_at_call 35; refine (good_c h).mono ?_; rintro e w' ⟨rfl, rfl⟩)
  go_ret
  exact ⟨rfl, rfl⟩
theorem ticks_c (h : DrvAt S w0 w dd gf g bw be blocks ticks s) : Calls Try.prog 12 #[.pointer (some ⟨dd, 0, none⟩)] w fun e w' => e = .returned (.int .i64 ticks) ∧ w = w' := by
  obtain ⟨c0, c1, c2⟩ := h.cells
  go_enter Try.func12, Try.ntmps12
  go_wp2_with (go_at_call 35; refine (good_c h).mono ?_; rintro e w' ⟨rfl, rfl⟩)
  go_ret
  exact ⟨rfl, rfl⟩
theorem flash_write (h : DrvAt S w0 w dd gf g bw be blocks ticks s) {at_ v e : Int} (hv : 0 ≤ v) (hv' : v < 4294967296) (q : Hid (Cf.write s at_ v = (e, s'))) :
    Calls Try.prog 54 #[.pointer (some ⟨gf, 0, none⟩), .int .i64 at_, .int .u32 v] w fun x w' => x = .returned (.int .i64 e) ∧ DrvAt (Sx S w w') w0 w' dd gf g bw be blocks ticks s' ∧ Keep (Mine S dd) w w' := by
  refine (Cfi.write_c h.fl hv hv').mono ?_
  rintro x w' ⟨rfl, p1, p2⟩
  rw [q.out] at p1 ⊢
  exact ⟨rfl, h.turn p1 p2, p2.mono fun k _ e => .inl e⟩
theorem flash_tick (h : DrvAt S w0 w dd gf g bw be blocks ticks s) {n e : Int} (q : Hid (Cf.tick s n = (e, s'))) :
    Calls Try.prog 56 #[.pointer (some ⟨gf, 0, none⟩), .int .i64 n] w fun x w' => x = .returned (.int .i64 e) ∧ DrvAt (Sx S w w') w0 w' dd gf g bw be blocks ticks s' ∧ Keep (Mine S dd) w w' := by
  refine (Cfi.tick_c h.fl).mono ?_
  rintro x w' ⟨rfl, p1, p2⟩
  rw [q.out] at p1 ⊢
  exact ⟨rfl, h.turn p1 p2, p2.mono fun k _ e => .inl e⟩
theorem flash_read (h : DrvAt S w0 w dd gf g bw be blocks ticks s) {at_ v e : Int} (q : Hid (Cf.read s at_ = (v, e))) :
    Calls Try.prog 43 #[.pointer (some ⟨gf, 0, none⟩), .int .i64 at_] w fun x w' => x = .returned (.tuple #[.int .u32 v, .int .i64 e]) ∧ DrvAt S w0 w' dd gf g bw be blocks ticks s ∧ Below w.heap.size w w' := by
  refine (Cfi.read_c h.fl).mono ?_
  rintro x w' ⟨rfl, p⟩
  rw [q.out]
  exact ⟨rfl, h.then p, p⟩
theorem flash_status (h : DrvAt S w0 w dd gf g bw be blocks ticks s) {v : Int} (q : Hid (Cf.status s = v)) :
    Calls Try.prog 55 #[.pointer (some ⟨gf, 0, none⟩)] w fun x w' => x = .returned (.int .u32 v) ∧ w = w' := by
  refine (Cfi.status_c h.fl).mono ?_
  rintro x w' ⟨rfl, rfl⟩
  rw [q.out]
  exact ⟨rfl, rfl⟩
set_option maxRecDepth 100000 in
theorem write1_c (h : DrvAt S w0 w dd gf g bw be blocks ticks s) {at_ a e : Int} (ha : 0 ≤ a) (ha' : a < 4294967296) {r : Nat} (hr : w.cell? ⟨r, 0, none⟩ = some (.int .u32 a)) (q : Hid (Cf.write s at_ a = (e, s'))) :
    Calls Try.prog 38 #[.pointer (some ⟨dd, 0, none⟩), .int .i64 at_, .slice (some ⟨r, 0, none⟩) 1 1] w fun x w' => x = .returned (.int .i64 e) ∧ DrvAt (Sx S w w') w0 w' dd gf g bw be blocks ticks s' ∧ Keep (Mine S dd) w w' := by
  obtain ⟨c0, c1, c2⟩ := h.cells
  by_cases he : e = 0
  · subst he
    go_enter Try.func38, Try.ntmps38
    go_wp2_with (go_at_call 35; refine (good_c h).mono ?_; rintro e w' ⟨rfl, rfl⟩)
    refine wp_loop_rounds 4 ?_
    rw [rounds_succ]
    go_wp2_with (go_at_call 54; refine (flash_write h ha ha' q).mono ?_; rintro x w' ⟨rfl, p1, p2⟩; clear h)
    rw [rounds_succ]
    go_wp2
    go_ret
    exact ⟨rfl, p1, p2⟩
  · have hb : (e != 0) = true := by simpa using he
    have hb2 : (e == 0) = false := by simpa using he
    clear he
    go_enter Try.func38, Try.ntmps38
    go_wp2_with (go_at_call 35; refine (good_c h).mono ?_; rintro e w' ⟨rfl, rfl⟩)
    refine wp_loop_rounds 4 ?_
    rw [rounds_succ]
    go_wp2_with (go_at_call 54; refine (flash_write h ha ha' q).mono ?_; rintro x w' ⟨rfl, p1, p2⟩; clear h)
    go_ret
    exact ⟨rfl, p1, p2⟩
set_option maxHeartbeats 1000000 in
set_option maxRecDepth 100000 in
theorem write2_c (h : DrvAt S w0 w dd gf g bw be blocks ticks s) {at_ a b e : Int} (ha : 0 ≤ a) (ha' : a < 4294967296) (hb : 0 ≤ b) (hb' : b < 4294967296) {r : Nat} (hr0 : ¬ Mine S dd r) (hr : w.cell? ⟨r, 0, none⟩ = some (.int .u32 a)) (hr2 : w.cell? ⟨r, 1, none⟩ = some (.int .u32 b)) (q : Hid (Cf.both s at_ a b = (e, s'))) :
    Calls Try.prog 38 #[.pointer (some ⟨dd, 0, none⟩), .int .i64 at_, .slice (some ⟨r, 0, none⟩) 2 2] w fun x w' => x = .returned (.int .i64 e) ∧ DrvAt (Sx S w w') w0 w' dd gf g bw be blocks ticks s' ∧ Keep (Mine S dd) w w' := by
  obtain ⟨c0, c1, c2⟩ := h.cells
  have h0 := h
  obtain ⟨e1, s1, q1⟩ : ∃ e1 s1, Cf.write s at_ a = (e1, s1) := ⟨_, _, rfl⟩
  have Q1 := Lib.hid q1
  by_cases he : e1 = 0
  · subst he
    have q2 : Hid (Cf.write s1 at_ b = (e, s')) := by
      have := q.out
      unfold Cf.both at this
      rw [q1, if_pos rfl] at this
      exact this
    clear q1
    by_cases h2 : e = 0
    · subst h2
      go_enter Try.func38, Try.ntmps38
      go_wp2_with (go_at_call 35; refine (good_c h).mono ?_; rintro e w' ⟨rfl, rfl⟩)
      refine wp_loop_rounds 4 ?_
      rw [rounds_succ]
      go_wp2_with (go_at_call 54; refine (flash_write h ha ha' Q1).mono ?_; rintro x w' ⟨rfl, p1, p2⟩; clear h)
      have c0' := p1.cells.1
      have hr3 := Keep.cell p2 hr2 hr0
      rw [rounds_succ]
      go_wp2_with (go_at_call 54; refine (flash_write p1 hb hb' q2).mono ?_; rintro x w' ⟨rfl, p3, p4⟩; clear p1)
      rw [rounds_succ]
      go_wp2
      go_ret
      exact ⟨rfl, h0.join p3 p2.size p4.size, p2.chain p4⟩
    · have hb1 : (e != 0) = true := by simpa using h2
      have hb2 : (e == 0) = false := by simpa using h2
      clear h2
      go_enter Try.func38, Try.ntmps38
      go_wp2_with (go_at_call 35; refine (good_c h).mono ?_; rintro e w' ⟨rfl, rfl⟩)
      refine wp_loop_rounds 4 ?_
      rw [rounds_succ]
      go_wp2_with (go_at_call 54; refine (flash_write h ha ha' Q1).mono ?_; rintro x w' ⟨rfl, p1, p2⟩; clear h)
      have c0' := p1.cells.1
      have hr3 := Keep.cell p2 hr2 hr0
      rw [rounds_succ]
      go_wp2_with (go_at_call 54; refine (flash_write p1 hb hb' q2).mono ?_; rintro x w' ⟨rfl, p3, p4⟩; clear p1)
      go_ret
      exact ⟨rfl, h0.join p3 p2.size p4.size, p2.chain p4⟩
  · have q2 : e1 = e ∧ s1 = s' := by
      have := q.out
      unfold Cf.both at this
      rw [q1, if_neg he] at this
      exact Prod.mk.inj this
    obtain ⟨rfl, rfl⟩ := q2
    have hb1 : (e1 != 0) = true := by simpa using he
    have hb2 : (e1 == 0) = false := by simpa using he
    clear he q1
    go_enter Try.func38, Try.ntmps38
    go_wp2_with (go_at_call 35; refine (good_c h).mono ?_; rintro e w' ⟨rfl, rfl⟩)
    refine wp_loop_rounds 4 ?_
    rw [rounds_succ]
    go_wp2_with (go_at_call 54; refine (flash_write h ha ha' Q1).mono ?_; rintro x w' ⟨rfl, p1, p2⟩; clear h)
    go_ret
    exact ⟨rfl, p1, p2⟩
end
end Drv
end Go.Proofs.Ytfghlfolejpjjaa

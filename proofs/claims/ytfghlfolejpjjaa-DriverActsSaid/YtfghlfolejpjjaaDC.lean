/- The parts: DrvO Live5 Hv. -/
import Derived.Test.YtfghlfolejpjjaaDB
import Derived.Test.YtfghlfolejpjjaaDead
import Derived.Test.YtfghlfolejpjjaaArgs5
import Derived.Test.YtfghlfolejpjjaaOwn
/- The contracts of package driver, each answer given by an equation; New; drivers that no call made; dioptralaw05.Begin. -/
namespace Go.Proofs.Ytfghlfolejpjjaa
open Go.RowKit
set_option linter.unusedVariables false
attribute [local go_sem] max2_int min2_int max_two min_two
/-- A driver, whatever its blocks. -/
def DrvL (w0 w : World) (dd gf g bw be : Nat) (blocks ticks : Int) (s : Cf.Fl) : Prop := ∃ S, DrvAt S w0 w dd gf g bw be blocks ticks s
section
variable {w0 w w' : World} {dd gf g bw be : Nat} {blocks ticks : Int} {s s' : Cf.Fl}
theorem DrvL.own (h : DrvL w0 w dd gf g bw be blocks ticks s) : Own w0 w g bw be s.c := by obtain ⟨S, h⟩ := h; exact h.fl.own
theorem DrvL.then (h : DrvL w0 w dd gf g bw be blocks ticks s) (hb : Below w.heap.size w w') : DrvL w0 w' dd gf g bw be blocks ticks s := by obtain ⟨S, h⟩ := h; exact ⟨S, h.then hb⟩
end
namespace Drv
section
variable {w0 w w' : World} {dd gf g bw be : Nat} {blocks ticks : Int} {s s' : Cf.Fl}
theorem new_c {S : Nat → Prop} (h : FlashX S w0 w gf g bw be s) {n : Int} (h1 : 1 ≤ n) (h2 : n ≤ 64) : Calls Try.prog 21 #[.pointer (some ⟨gf, 0, none⟩), .int .i64 n] w fun x w' => ∃ dd, x = .returned (.pointer (some ⟨dd, 0, none⟩)) ∧ DrvL w0 w' dd gf g bw be n 0 s := by
  have h0 := h
  go_enter Try.func21, Try.ntmps21
  go_wp2
  go_ret
  exact ⟨_, rfl, S, h0.then ((Below.refl _ w).alloc (Nat.le_refl _) _), h0.old, fun e => by have := h0.hi _ e; omega, heap_alloc_new _ _⟩
theorem begin_o {w0 w : World} (h : Below w0.heap.size w0 w) {n : Nat} {endure : Int} (h1 : 1 ≤ n) (h2 : n ≤ 64) (he : 0 ≤ endure) (he2 : Hid (endure ≤ 9223372036854775807)) (q : Hid (Cf.new (Nr.new n endure) = s)) :
    Calls Try.prog 10 #[.int .i64 n, .int .i64 endure] w fun e w' => ∃ g bw be gf dd, e = .returned (.tuple #[.pointer (some ⟨g, 0, none⟩), .pointer (some ⟨dd, 0, none⟩)]) ∧ DrvL w0 w' dd gf g bw be n 0 s := by
  have hn := Cfi.begin_c (w := w) h h1 h2 he he2 (c := Nr.new n endure) rfl
  rw [q.out] at hn
  have n1 : (1 : Int) ≤ n := by omega
  have n2 : (n : Int) ≤ 64 := by omega
  go_enter Try.func10, Try.ntmps10
  go_wp2_with (first | (go_at_call 20; refine hn.mono ?_; rintro e w1 ⟨g, bw, be, gf, rfl, hF⟩; clear hn) | (go_at_call 21; refine (new_c hF n1 n2).mono ?_; rintro e w2 ⟨dd, rfl, hD⟩; clear hF))
  go_ret2
  exact ⟨g, bw, be, gf, dd, rfl, hD⟩
theorem erase_o (h : DrvL w0 w dd gf g bw be blocks ticks s) (hc : Cf.Calm s) (t0 : 0 ≤ ticks) (t1 : ticks ≤ 1000000000) {b e t : Int} (ha : -100000000000000 ≤ b) (ha' : b ≤ 100000000000000) (q : Hid (Cf.ew s b = (e, t, s'))) :
    Calls Try.prog 13 #[.pointer (some ⟨dd, 0, none⟩), .int .i64 b] w fun x w' => x = .returned (.int .i64 e) ∧ DrvL w0 w' dd gf g bw be blocks (ticks + t) s' := by
  obtain ⟨S, h⟩ := h
  refine (erase_c h hc t0 t1 ha ha').mono ?_
  rintro x w' ⟨rfl, p, _⟩
  rw [q.out] at p ⊢
  exact ⟨rfl, _, p⟩
theorem lockOn_o (h : DrvL w0 w dd gf g bw be blocks ticks s) (hc : Cf.Calm s) {b e : Int} (ha : -100000000000000 ≤ b) (ha' : b ≤ 100000000000000) (q : Hid (Cf.lw s b true = (e, s'))) :
    Calls Try.prog 18 #[.pointer (some ⟨dd, 0, none⟩), .int .i64 b, .bool true] w fun x w' => x = .returned (.int .i64 e) ∧ DrvL w0 w' dd gf g bw be blocks ticks s' := by
  obtain ⟨S, h⟩ := h
  refine (lockOn h hc ha ha').mono ?_
  rintro x w' ⟨rfl, p, _⟩
  rw [q.out] at p ⊢
  exact ⟨rfl, _, p⟩
theorem lockOff_o (h : DrvL w0 w dd gf g bw be blocks ticks s) (hc : Cf.Calm s) {b e : Int} (ha : -100000000000000 ≤ b) (ha' : b ≤ 100000000000000) (q : Hid (Cf.lw s b false = (e, s'))) :
    Calls Try.prog 18 #[.pointer (some ⟨dd, 0, none⟩), .int .i64 b, .bool false] w fun x w' => x = .returned (.int .i64 e) ∧ DrvL w0 w' dd gf g bw be blocks ticks s' := by
  obtain ⟨S, h⟩ := h
  refine (lockOff h hc ha ha').mono ?_
  rintro x w' ⟨rfl, p, _⟩
  rw [q.out] at p ⊢
  exact ⟨rfl, _, p⟩
/-- Words that the call lays down itself. -/
theorem program_lit (h : DrvL w0 w dd gf g bw be blocks ticks s) (hc : Cf.Calm s) (t0 : 0 ≤ ticks) (t1 : ticks ≤ 900000000) {at_ e t : Int} (ha : -10000000000000 ≤ at_) (ha' : at_ ≤ 10000000000000) {zs : List Int} {cs : Array Value} {cap : Nat} (hlen : zs.length ≤ 64)
    (hz : Hid (∀ i : Nat, 0 ≤ zs.getD i 0 ∧ zs.getD i 0 < 4294967296)) (hcs : ∀ i, i < zs.length → cs[i]? = some (.int .u32 (zs.getD i 0))) (q : Hid (Cf.pws s at_ zs = (e, t, s'))) :
    Calls Try.prog 11 #[.pointer (some ⟨dd, 0, none⟩), .int .i64 at_, .slice (some ⟨w.heap.size, 0, none⟩) zs.length cap] (w.alloc (.cells cs 34)) fun x w' => x = .returned (.int .i64 e) ∧ DrvL w0 w' dd gf g bw be blocks (ticks + t) s' := by
  obtain ⟨S, h⟩ := h
  have hW := h.then ((Below.refl _ w).alloc (Nat.le_refl _) (.cells cs 34))
  refine (program_c (zs := zs) (b := w.heap.size) (off := 0) hW hc t0 t1 ha ha' hlen hz (fun _ _ => rfl) (fun i hi => ?_) (fresh_not h (Nat.le_refl _))).mono ?_
  · rw [Nat.zero_add, World.cell?_alloc_mark w cs 34 (0, 0) i]; exact hcs i hi
  · rintro x w' ⟨rfl, p, _⟩
    rw [q.out] at p ⊢
    exact ⟨rfl, _, p⟩
theorem program_o (h : DrvL w0 w dd gf g bw be blocks ticks s) (hc : Cf.Calm s) (t0 : 0 ≤ ticks) (t1 : ticks ≤ 900000000) {at_ e t : Int} (ha : -10000000000000 ≤ at_) (ha' : at_ ≤ 10000000000000) {zs : List Int} {a : Option Addr} {cap b off : Nat} (hlen : zs.length ≤ 64)
    (hz : Hid (∀ i : Nat, 0 ≤ zs.getD i 0 ∧ zs.getD i 0 < 4294967296)) (hA : ∀ i, i < zs.length → a = some ⟨b, off, none⟩) (hcell : Hid (∀ i, i < zs.length → w0.cell? ⟨b, off + i, none⟩ = some (.int .u32 (zs.getD i 0)))) (q : Hid (Cf.pws s at_ zs = (e, t, s'))) :
    Calls Try.prog 11 #[.pointer (some ⟨dd, 0, none⟩), .int .i64 at_, .slice a zs.length cap] w fun x w' => x = .returned (.int .i64 e) ∧ DrvL w0 w' dd gf g bw be blocks (ticks + t) s' := by
  obtain ⟨S, h⟩ := h
  by_cases hl : zs.length = 0
  · have nb : ¬ Mine S dd (w.heap.size) := fresh_not h (Nat.le_refl _)
    refine (program_c (zs := zs) (b := w.heap.size) (off := off) h hc t0 t1 ha ha' hlen hz (fun i hi => absurd hi (by omega)) (fun i hi => absurd hi (by omega)) nb).mono ?_
    rintro x w' ⟨rfl, p, _⟩
    rw [q.out] at p ⊢
    exact ⟨rfl, _, p⟩
  · have hb0 : b < w0.heap.size := by
      have := hcell.out 0 (by omega)
      unfold World.cell? at this
      split at this
      · rename_i e; exact (Array.getElem?_eq_some_iff.1 e).1
      · cases this
    have nb : ¬ Mine S dd b := fun e => e.elim (fun e => by have := h.fl.lo b e; omega) (fun e => by have := h.ld; omega)
    refine (program_c (zs := zs) (b := b) (off := off) h hc t0 t1 ha ha' hlen hz hA (fun i hi => Sl.below_cell h.fl.own.below (hcell.out i hi)) nb).mono ?_
    rintro x w' ⟨rfl, p, _⟩
    rw [q.out] at p ⊢
    exact ⟨rfl, _, p⟩
theorem read_o (h : DrvL w0 w dd gf g bw be blocks ticks s) (hc : Cf.Calm s) {at_ n : Nat} (n1 : 1 ≤ n) (n2 : n ≤ 64) (hin : at_ + n ≤ s.c.words.length) (hoff : s.c.off = false) {zs : List Int} (hl : zs.length = n) (hzs : Hid (∀ i, i < n → zs.getD i 0 = s.c.words.getD (at_ + i) 0)) :
    Calls Try.prog 16 #[.pointer (some ⟨dd, 0, none⟩), .int .i64 at_, .int .i64 n] w fun x w' => ∃ r, x = .returned (.tuple #[.slice (some ⟨r, 0, none⟩) n n, .int .i64 0]) ∧ w.heap.size ≤ r ∧ Row w' r zs ∧ DrvL w0 w' dd gf g bw be blocks ticks { s with mode := 0 } := by
  obtain ⟨S, h⟩ := h
  refine (read_ok h hc n1 n2 hin hoff hl hzs).mono ?_
  rintro x w' ⟨r, S', rfl, h1, h2, p, _⟩
  exact ⟨r, rfl, h1, h2, _, p⟩
theorem ticks_o (h : DrvL w0 w dd gf g bw be blocks ticks s) : Calls Try.prog 12 #[.pointer (some ⟨dd, 0, none⟩)] w fun e w' => e = .returned (.int .i64 ticks) ∧ w = w' := by
  obtain ⟨S, h⟩ := h; exact ticks_c h
theorem blocks_o (h : DrvL w0 w dd gf g bw be blocks ticks s) : Calls Try.prog 19 #[.pointer (some ⟨dd, 0, none⟩)] w fun e w' => e = .returned (.int .i64 blocks) ∧ w = w' := by
  obtain ⟨S, h⟩ := h; exact blocks_c h
end
end Drv
/-- A driver, and blocks that are none of its own. -/
def DrvR (P : Nat → Prop) (w0 w : World) (dd gf g bw be : Nat) (blocks ticks : Int) (s : Cf.Fl) : Prop := ∃ S, DrvAt S w0 w dd gf g bw be blocks ticks s ∧ ∀ k, P k → k < w.heap.size ∧ ¬ Mine S dd k
section
variable {P : Nat → Prop} {w0 w w' : World} {dd gf g bw be : Nat} {blocks ticks : Int} {s s' : Cf.Fl}
theorem DrvL.none (h : DrvL w0 w dd gf g bw be blocks ticks s) : DrvR (fun _ => False) w0 w dd gf g bw be blocks ticks s := by obtain ⟨S, h⟩ := h; exact ⟨S, h, fun _ e => e.elim⟩
theorem DrvR.lt (h : DrvR P w0 w dd gf g bw be blocks ticks s) {k : Nat} (hk : P k) : k < w.heap.size := by obtain ⟨S, h, hp⟩ := h; exact (hp k hk).1
theorem DrvR.drvL (h : DrvR P w0 w dd gf g bw be blocks ticks s) : DrvL w0 w dd gf g bw be blocks ticks s := by obtain ⟨S, h, _⟩ := h; exact ⟨S, h⟩
theorem DrvR.then (h : DrvR P w0 w dd gf g bw be blocks ticks s) (hb : Below w.heap.size w w') : DrvR P w0 w' dd gf g bw be blocks ticks s := by
  obtain ⟨S, h, hp⟩ := h; exact ⟨S, h.then hb, fun k hk => ⟨Nat.lt_of_lt_of_le (hp k hk).1 hb.size, (hp k hk).2⟩⟩
theorem _root_.Go.Proofs.Ytfghlfolejpjjaa.Row.same {w w' : World} {r : Nat} {zs : List Int} (h : Row w r zs) (e : w'.heap[r]? = w.heap[r]?) : Row w' r zs := by
  obtain ⟨cur, h1, h2⟩ := h; exact ⟨cur, e.trans h1, h2⟩
theorem DrvR.up {S S' : Nat → Prop} (h : DrvAt S w0 w dd gf g bw be blocks ticks s) (hp : ∀ k, P k → k < w.heap.size ∧ ¬ Mine S dd k) {b2 t2 : Int} (h' : DrvAt S' w0 w' dd gf g bw be b2 t2 s') (hS : ∀ k, S' k → Sx S w w' k) (hK : Keep (Mine S dd) w w') : DrvR P w0 w' dd gf g bw be b2 t2 s' :=
  ⟨S', h', fun k hk => ⟨Nat.lt_of_lt_of_le (hp k hk).1 hK.size, fun e => (hp k hk).2 (e.elim (fun e => (hS k e).elim .inl (fun e => by have := (hp k hk).1; omega)) .inr)⟩⟩
end
namespace Drv
section
variable {P : Nat → Prop} {w0 w w' : World} {dd gf g bw be : Nat} {blocks ticks : Int} {s s' : Cf.Fl}
theorem erase_r (h : DrvR P w0 w dd gf g bw be blocks ticks s) (hc : Cf.Calm s) (t0 : 0 ≤ ticks) (t1 : ticks ≤ 1000000000) {b e t : Int} (ha : -100000000000000 ≤ b) (ha' : b ≤ 100000000000000) (q : Hid (Cf.ew s b = (e, t, s'))) :
    Calls Try.prog 13 #[.pointer (some ⟨dd, 0, none⟩), .int .i64 b] w fun x w' => x = .returned (.int .i64 e) ∧ DrvR P w0 w' dd gf g bw be blocks (ticks + t) s' ∧ ∀ k, P k → w'.heap[k]? = w.heap[k]? := by
  obtain ⟨S, h, hp⟩ := h
  refine (erase_c h hc t0 t1 ha ha').mono ?_
  rintro x w' ⟨rfl, p, k⟩
  rw [q.out] at p ⊢
  exact ⟨rfl, DrvR.up h hp p (fun _ h => h) k, fun i hi => k.block i (hp i hi).1 (hp i hi).2⟩
theorem read_r (h : DrvR P w0 w dd gf g bw be blocks ticks s) (hc : Cf.Calm s) {at_ n : Nat} (n1 : 1 ≤ n) (n2 : n ≤ 64) (hin : at_ + n ≤ s.c.words.length) (hoff : s.c.off = false) {zs : List Int} (hl : zs.length = n) (hzs : Hid (∀ i, i < n → zs.getD i 0 = s.c.words.getD (at_ + i) 0)) :
    Calls Try.prog 16 #[.pointer (some ⟨dd, 0, none⟩), .int .i64 at_, .int .i64 n] w fun x w' => ∃ r, x = .returned (.tuple #[.slice (some ⟨r, 0, none⟩) n n, .int .i64 0]) ∧ w.heap.size ≤ r ∧ Row w' r zs ∧ DrvR (fun k => P k ∨ k = r) w0 w' dd gf g bw be blocks ticks { s with mode := 0 } ∧ ∀ k, P k → w'.heap[k]? = w.heap[k]? := by
  obtain ⟨S, h, hp⟩ := h
  refine (read_ok h hc n1 n2 hin hoff hl hzs).mono ?_
  rintro x w' ⟨r, S', rfl, h1, h2, p, p2, p3, k⟩
  have hr := h2
  obtain ⟨cur, hr, _⟩ := hr
  refine ⟨r, rfl, h1, h2, ⟨S', p, fun i hi => ?_⟩, fun i hi => k.block i (hp i hi).1 (hp i hi).2⟩
  rcases hi with hi | rfl
  · obtain ⟨S2, _, q⟩ := DrvR.up h hp p p2 k
    exact ⟨Nat.lt_of_lt_of_le (hp i hi).1 k.size, fun e => (hp i hi).2 (e.elim (fun e => (p2 i e).elim .inl (fun e => by have := (hp i hi).1; omega)) .inr)⟩
  · exact ⟨(Array.getElem?_eq_some_iff.1 hr).1, p3⟩
end
end Drv
end Go.Proofs.Ytfghlfolejpjjaa

/- dioptralaw05.alive. -/
namespace Go.Proofs.Ytfghlfolejpjjaa
open Go.RowKit
set_option linter.unusedVariables false
attribute [local go_sem] max2_int min2_int max_two min_two
namespace Drv
def d0 : Cf.Fl := Cf.new (Nr.new 2 1)
def d1 : Cf.Fl := (Cf.pws d0 5 [7, 8]).2.2
def d2 : Cf.Fl := { d1 with mode := 0 }
def d3 : Cf.Fl := (Cf.ew d2 0).2.2
def d4 : Cf.Fl := (Cf.ew d3 0).2.2
theorem dp1 : (Cf.pws d0 5 [7, 8]).1 = 0 := by decide +kernel
theorem dt1 : (Cf.pws d0 5 [7, 8]).2.1 = 6 := by decide +kernel
theorem de3 : (Cf.ew d2 0).1 = 0 := by decide +kernel
theorem dt3 : (Cf.ew d2 0).2.1 = 20 := by decide +kernel
theorem de4 : (Cf.ew d3 0).1 = 5 := by decide +kernel
theorem dt4 : (Cf.ew d3 0).2.1 = 20 := by decide +kernel
theorem dl1 : d1.c.words.length = 128 := by decide +kernel
theorem do1 : d1.c.off = false := by decide +kernel
theorem dw4 : Nr.worn d4.c 0 = 1 := by decide +kernel
theorem dz : d1.c.words.getD 5 0 = 7 ∧ d1.c.words.getD 6 0 = 8 ∧ d1.c.words.getD 7 0 = 4294967295 := by decide +kernel
theorem calm0 : Cf.Calm d0 := ⟨rfl, rfl, rfl⟩
theorem calm1 : Cf.Calm d1 := Cf.pwN_calm calm0 _ _ _
theorem calm2 : Cf.Calm d2 := ⟨calm1.job, calm1.wait, calm1.errs⟩
theorem calm3 : Cf.Calm d3 := Cf.ew_calm calm2 0
theorem live : ∃ s0 s1 s2 s3 s4 : Cf.Fl, Hid (Cf.new (Nr.new 2 1) = s0) ∧ Hid (Cf.pws s0 5 [7, 8] = (0, 6, s1)) ∧ Hid ({ s1 with mode := 0 } = s2) ∧ Hid (Cf.ew s2 0 = (0, 20, s3)) ∧ Hid (Cf.ew s3 0 = (5, 20, s4)) ∧ s1.c.words.length = 128 ∧ Hid (s1.c.off = false) ∧ Hid (Nr.worn s4.c 0 = 1) ∧
    Hid (∀ i, i < 3 → ([7, 8, 4294967295] : List Int).getD i 0 = s1.c.words.getD (5 + i) 0) ∧ Hid (Cf.Calm s0) ∧ Hid (Cf.Calm s1) ∧ Hid (Cf.Calm s2) ∧ Hid (Cf.Calm s3) :=
  ⟨d0, d1, d2, d3, d4, rfl, Prod.ext dp1 (Prod.ext dt1 rfl), rfl, Prod.ext de3 (Prod.ext dt3 rfl), Prod.ext de4 (Prod.ext dt4 rfl), dl1, do1, dw4, (fun i hi => by
    rcases (show i = 0 ∨ i = 1 ∨ i = 2 by omega) with rfl | rfl | rfl
    · exact dz.1.symm
    · exact dz.2.1.symm
    · exact dz.2.2.symm), calm0, calm1, calm2, calm3⟩
set_option maxHeartbeats 1000000 in
set_option maxRecDepth 100000 in
theorem alive_c (w : World) : Calls Try.prog 9 #[] w fun e w' => e = .returned (.bool true) ∧ Below w.heap.size w w' := by
  obtain ⟨s0, s1, s2, s3, s4, H0, H1, H2, H3, H4, hl, H5, H6, H7, C0, C1, C2, C3⟩ := live
  have hb := begin_o (Below.refl w.heap.size w) (n := 2) (endure := 1) (by decide) (by decide) (by decide) (Lib.hid (by decide)) H0
  go_enter Try.func9, Try.ntmps9
  go_wp2_with (first | (go_at_call 10; refine hb.mono ?_; rintro e w1 ⟨g, bw, be, gf, dd, rfl, h0⟩; clear hb) |
    (go_at_call 11; refine (program_lit (zs := [7, 8]) h0 C0.out (by decide) (by decide) (by decide) (by decide) (by decide) (fun i => by match i with | 0 => decide | 1 => decide | i + 2 => exact ⟨by simp, by simp⟩) (fun i hi => by match i, hi with | 0, _ => rfl | 1, _ => rfl) H1).mono ?_; rintro e w2 ⟨rfl, h1⟩; clear h0) |
    (go_at_call 16; refine (read_r h1.none C1.out (at_ := 5) (n := 3) (zs := [7, 8, 4294967295]) (by decide) (by decide) (by omega) H5.out rfl H7).mono ?_; rintro e w3 ⟨r1, rfl, q1, q2, h2, _⟩; rw [H2.out] at h2; clear h1) |
    (go_at_call 13; refine (erase_r h2 C2.out (by decide) (by decide) (by decide) (by decide) H3).mono ?_; rintro e w4 ⟨rfl, h3, k3⟩; have q3 := q2.same (k3 _ (.inr rfl)); clear h2 k3 q2) |
    (go_at_call 13; refine (erase_r h3 C3.out (by decide) (by decide) (by decide) (by decide) H4).mono ?_; rintro e w5 ⟨rfl, h4, k4⟩; have q4 := q3.same (k4 _ (.inr rfl)); clear h3 k4 q3) |
    (go_at_call 17; refine (Ref1.words_same (zs := [7, 8, 4294967295]) (b1 := r1) (o1 := 0) (b2 := w5.heap.size) (o2 := 0) (fun _ _ => rfl) (fun _ _ => rfl) (by decide) (fun i hi => by rw [Nat.zero_add]; exact (q4.below ((Below.refl _ _).alloc (Nat.le_refl _) _)).cell hi) (fun i hi => by rw [Nat.zero_add, World.cell?_alloc_mark]; match i, hi with | 0, _ => rfl | 1, _ => rfl | 2, _ => rfl)).mono ?_; rintro e w6 ⟨rfl, b6⟩; have h5 := (h4.drvL.then ((Below.refl _ _).alloc (Nat.le_refl _) _)).then b6) |
    (go_at_call 12; refine (ticks_o h5).mono ?_; rintro e w3 ⟨rfl, rfl⟩) |
    (go_at_call 19; refine (blocks_o h5).mono ?_; rintro e w3 ⟨rfl, rfl⟩) |
    (go_at_call 14; refine (Nor.wear_o h5.own H6).mono ?_; rintro e w3 ⟨rfl, rfl⟩))
  go_ret
  exact ⟨rfl, h5.own.below⟩
end Drv
end Go.Proofs.Ytfghlfolejpjjaa

/- dioptralaw05.heavy. -/
namespace Go.Proofs.Ytfghlfolejpjjaa
open Go.RowKit
set_option linter.unusedVariables false
set_option linter.unusedSimpArgs false
attribute [local go_sem] max2_int min2_int max_two min_two
namespace Hv
def Light (len : Nat) (xs : Nat → Act5) : Prop := len ≤ 50 ∧ ∀ i, i < len → ((xs i).wl ≤ 10 ∧ -1099511627776 ≤ (xs i).t ∧ (xs i).t ≤ 1099511627776)
/-- An act that is not too heavy. -/
def light (x : Act5) : Prop := x.wl ≤ 10 ∧ -1099511627776 ≤ x.t ∧ x.t ≤ 1099511627776
theorem _root_.Go.Proofs.Ytfghlfolejpjjaa.Act5.ok.below {w w' : World} {x : Act5} (h : x.ok w) (hb : Below w.heap.size w w') : x.ok w' := by
  obtain ⟨b, off, h1, h2⟩ := h.at_
  exact ⟨h.k0, h.t0, h.m0, h.len, h.cap, h.max, h.rng, b, off, h1, fun i hi => Sl.below_cell hb (h2 i hi)⟩
theorem below_al (W : World) (o : Obj) : Below W.heap.size W (W.alloc o) := (Below.refl _ W).alloc (Nat.le_refl _) o
set_option maxHeartbeats 4000000 in
set_option maxRecDepth 100000 in
theorem heavy_c {w : World} {a : Option Addr} {len cap b off : Nat} {xs : Nat → Act5} (hmax : Hid ((len : Int) ≤ 9223372036854775807)) (hx : Hid (∀ i : Nat, (xs i).ok w)) (hA : ∀ i, i < len → a = some ⟨b, off, none⟩)
    (hcell : Hid (∀ i, i < len → w.cell? ⟨b, off + i * 4, none⟩ = some (.int .u8 (xs i).k) ∧ w.cell? ⟨b, off + i * 4 + 1, none⟩ = some (.int .i64 (xs i).t) ∧ w.cell? ⟨b, off + i * 4 + 2, none⟩ = some (.int .i64 (xs i).m) ∧ w.cell? ⟨b, off + i * 4 + 3, none⟩ = some (.slice (xs i).wa (xs i).wl (xs i).wc))) :
    Calls Try.prog 24 #[.slice a len cap] w fun x w' => ((x = .returned (.bool true) ∧ ¬ Light len xs) ∨ (x = .returned (.bool false) ∧ Light len xs)) ∧ Below w.heap.size w w' := by
  go_enter Try.func24, Try.ntmps24
  go_wp2
  go_loopw [7] (fun i wr => ∃ k : Nat, k ≤ len ∧ i = .int .i64 k ∧ Below w.heap.size w wr ∧ Hid (∀ i, i < k → light (xs i))) (fun i _ => len - (intOf i).toNat)
  case atStart => exact ⟨0, Nat.zero_le _, rfl, Below.refl _ _, Lib.hid fun i hi => absurd hi (by omega)⟩
  case round =>
    obtain ⟨k, hk, rfl, hB, hL⟩ := hrel
    by_cases hlt : k < len
    · have hlt2 : (k : Int) < (len : Int) := by omega
      obtain rfl := hA k hlt
      obtain ⟨q0, q1, q2, q3⟩ := hcell.out k hlt
      replace q0 := Sl.below_cell hB q0
      replace q1 := Sl.below_cell hB q1
      replace q2 := Sl.below_cell hB q2
      replace q3 := Sl.below_cell hB q3
      have ho := Lib.hid (hx.out k)
      have hS : Hid ((xs k).wl ≤ 10 → -1099511627776 ≤ (xs k).t → (xs k).t ≤ 1099511627776 → ∀ i, i < k + 1 → light (xs i)) := Lib.hid fun h1 h2 h3 i hi => by
        by_cases e : i = k
        · subst e; exact ⟨h1, h2, h3⟩
        · exact hL.out i (by omega)
      have hN : Hid (¬ ((xs k).wl ≤ 10 ∧ -1099511627776 ≤ (xs k).t ∧ (xs k).t ≤ 1099511627776) → ¬ Light len xs) := Lib.hid fun h1 h2 => h1 (h2.2 k hlt)
      have hB2 := Below.then hB (below_al wr (.cells #[.int .u8 (xs k).k, .int .i64 (xs k).t, .int .i64 (xs k).m, .slice (xs k).wa (xs k).wl (xs k).wc] 66))
      have t0 := ho.out.t0
      generalize (xs k).k = kk at *
      generalize (xs k).t = tt at *
      generalize (xs k).m = mm at *
      generalize (xs k).wa = wa at *
      generalize (xs k).wl = wl at *
      generalize (xs k).wc = wc at *
      have lb := hB.size
      by_cases c1 : (10 : Int) < (wl : Int)
      · clear hS ho hL
        go_wp2
        go_ret
        exact ⟨.inl ⟨rfl, hN.out (by omega)⟩, hB2⟩
      · by_cases c2 : (1099511627776 : Int) < tt
        · have c1' : (wl : Int) ≤ 10 := by omega
          clear hS ho hL c1
          go_wp2
          go_ret
          exact ⟨.inl ⟨rfl, hN.out (by omega)⟩, hB2⟩
        · by_cases c3 : tt < (-1099511627776 : Int)
          · have c1' : (wl : Int) ≤ 10 := by omega
            have c2' : tt ≤ (1099511627776 : Int) := by omega
            clear hS ho hL c1 c2
            go_wp2
            go_ret
            exact ⟨.inl ⟨rfl, hN.out (by omega)⟩, hB2⟩
          · have c1' : (wl : Int) ≤ 10 := by omega
            have c2' : tt ≤ (1099511627776 : Int) := by omega
            have c3' : (-1099511627776 : Int) ≤ tt := by omega
            clear ho hL c1 c2 c3
            have hm := hmax.out
            go_wp2
            go_roundw
            case rel => exact ⟨k + 1, by omega, by go_num, hB2, Lib.hid (hS.out (by omega) c3' c2')⟩
            case measure => simp [intOf]; omega
    · obtain rfl : k = len := by omega
      have hlt2 : (k : Int) ≤ (k : Int) := Int.le_refl _
      by_cases c1 : (50 : Int) < (k : Int)
      · go_wp2
        go_ret
        exact ⟨.inl ⟨rfl, fun h => by have := h.1; omega⟩, hB⟩
      · have c2 : (k : Int) ≤ 50 := by omega
        clear c1
        go_wp2
        go_ret
        exact ⟨.inr ⟨by simp; omega, by omega, hL.out⟩, hB⟩
theorem heavy_yes {w : World} {a : Option Addr} {len cap b off : Nat} {xs : Nat → Act5} (hmax : Hid ((len : Int) ≤ 9223372036854775807)) (hx : Hid (∀ i : Nat, (xs i).ok w)) (hA : ∀ i, i < len → a = some ⟨b, off, none⟩)
    (hcell : Hid (∀ i, i < len → w.cell? ⟨b, off + i * 4, none⟩ = some (.int .u8 (xs i).k) ∧ w.cell? ⟨b, off + i * 4 + 1, none⟩ = some (.int .i64 (xs i).t) ∧ w.cell? ⟨b, off + i * 4 + 2, none⟩ = some (.int .i64 (xs i).m) ∧ w.cell? ⟨b, off + i * 4 + 3, none⟩ = some (.slice (xs i).wa (xs i).wl (xs i).wc))) (hH : Hid (¬ Light len xs)) {w1 : World} (b1 : Below w.heap.size w w1) :
    Calls Try.prog 24 #[.slice a len cap] w1 fun x w' => x = .returned (.bool true) ∧ Below w1.heap.size w1 w' := by
  refine (heavy_c hmax (Lib.hid fun i => (hx.out i).below b1) hA (Lib.hid fun i hi => ?_)).mono ?_
  · obtain ⟨q0, q1, q2, q3⟩ := hcell.out i hi
    exact ⟨Sl.below_cell b1 q0, Sl.below_cell b1 q1, Sl.below_cell b1 q2, Sl.below_cell b1 q3⟩
  · rintro x w' ⟨(⟨rfl, h⟩ | ⟨rfl, h⟩), b⟩
    · exact ⟨rfl, b⟩
    · exact absurd h hH.out
theorem heavy_no {w : World} {a : Option Addr} {len cap b off : Nat} {xs : Nat → Act5} (hmax : Hid ((len : Int) ≤ 9223372036854775807)) (hx : Hid (∀ i : Nat, (xs i).ok w)) (hA : ∀ i, i < len → a = some ⟨b, off, none⟩)
    (hcell : Hid (∀ i, i < len → w.cell? ⟨b, off + i * 4, none⟩ = some (.int .u8 (xs i).k) ∧ w.cell? ⟨b, off + i * 4 + 1, none⟩ = some (.int .i64 (xs i).t) ∧ w.cell? ⟨b, off + i * 4 + 2, none⟩ = some (.int .i64 (xs i).m) ∧ w.cell? ⟨b, off + i * 4 + 3, none⟩ = some (.slice (xs i).wa (xs i).wl (xs i).wc))) (hH : Hid (Light len xs)) {w1 : World} (b1 : Below w.heap.size w w1) :
    Calls Try.prog 24 #[.slice a len cap] w1 fun x w' => x = .returned (.bool false) ∧ Below w1.heap.size w1 w' := by
  refine (heavy_c hmax (Lib.hid fun i => (hx.out i).below b1) hA (Lib.hid fun i hi => ?_)).mono ?_
  · obtain ⟨q0, q1, q2, q3⟩ := hcell.out i hi
    exact ⟨Sl.below_cell b1 q0, Sl.below_cell b1 q1, Sl.below_cell b1 q2, Sl.below_cell b1 q3⟩
  · rintro x w' ⟨(⟨rfl, h⟩ | ⟨rfl, h⟩), b⟩
    · exact absurd hH.out h
    · exact ⟨rfl, b⟩
end Hv
end Go.Proofs.Ytfghlfolejpjjaa

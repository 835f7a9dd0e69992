/- The contracts of package driver, each answer given by an equation; New; drivers that no call made; dioptralaw05.Begin. -/
import Derived.Test.YtfghlfolejpjjaaDrv10
namespace Go.Proofs.Ytfghlfolejpjjaa
open Go.RowKit
set_option linter.unusedVariables false
attribute [local go_sem] max2_int min2_int max_two min_two
/-- A driver, whatever its blocks. -/
def DrvL (w0 w : World) (dd gf g bw be : Nat) (blocks ticks : Int) (s : Cf.Fl) : Prop := ∃ S, DrvAt S w0 w dd gf g bw be blocks ticks s
section
variable {w0 w w' : World} {dd gf g bw be : Nat} {blocks ticks : Int} {s s' : Cf.Fl}
theorem DrvL.own (h : DrvL w0 w dd gf g bw be blocks ticks s) : Own w0 w g bw be s.c := by obtain ⟨S, h⟩ := h; exact h.fl.own
theorem DrvL.then (h : DrvL w0 w dd gf g bw be blocks ticks s) (hb : Below w.heap.size w w') : DrvL w0 w' dd gf g bw be blocks ticks s := by obtain ⟨S, h⟩ := h; exact ⟨S, h.then hb⟩
end
namespace Drv
section
variable {w0 w w' : World} {dd gf g bw be : Nat} {blocks ticks : Int} {s s' : Cf.Fl}
theorem new_c {S : Nat → Prop} (h : FlashX S w0 w gf g bw be s) {n : Int} (h1 : 1 ≤ n) (h2 : n ≤ 64) : Calls Try.prog 21 #[.pointer (some ⟨gf, 0, none⟩), .int .i64 n] w fun x w' => ∃ dd, x = .returned (.pointer (some ⟨dd, 0, none⟩)) ∧ DrvL w0 w' dd gf g bw be n 0 s := by
  have h0 := h
  go_enter Try.func21, Try.ntmps21
  go_wp2
  go_ret
  exact ⟨_, rfl, S, h0.then ((Below.refl _ w).alloc (Nat.le_refl _) _), h0.old, fun e => by have := h0.hi _ e; omega, heap_alloc_new _ _⟩
theorem begin_o {w0 w : World} (h : Below w0.heap.size w0 w) {n : Nat} {endure : Int} (h1 : 1 ≤ n) (h2 : n ≤ 64) (he : 0 ≤ endure) (he2 : Hid (endure ≤ 9223372036854775807)) (q : Hid (Cf.new (Nr.new n endure) = s)) :
    Calls Try.prog 10 #[.int .i64 n, .int .i64 endure] w fun e w' => ∃ g bw be gf dd, e = .returned (.tuple #[.pointer (some ⟨g, 0, none⟩), .pointer (some ⟨dd, 0, none⟩)]) ∧ DrvL w0 w' dd gf g bw be n 0 s := by
  have hn := Cfi.begin_c (w := w) h h1 h2 he he2 (c := Nr.new n endure) rfl
  rw [q.out] at hn
  have n1 : (1 : Int) ≤ n := by omega
  have n2 : (n : Int) ≤ 64 := by omega
  go_enter Try.func10, Try.ntmps10
  go_wp2_with (first | (go_at_call 20; refine hn.mono ?_; rintro e w1 ⟨g, bw, be, gf, rfl, hF⟩; clear hn) | (go_at_call 21; refine (new_c hF n1 n2).mono ?_; rintro e w2 ⟨dd, rfl, hD⟩; clear hF))
  go_ret2
  exact ⟨g, bw, be, gf, dd, rfl, hD⟩
theorem erase_o (h : DrvL w0 w dd gf g bw be blocks ticks s) (hc : Cf.Calm s) (t0 : 0 ≤ ticks) (t1 : ticks ≤ 1000000000) {b e t : Int} (ha : -100000000000000 ≤ b) (ha' : b ≤ 100000000000000) (q : Hid (Cf.ew s b = (e, t, s'))) :
    Calls Try.prog 13 #[.pointer (some ⟨dd, 0, none⟩), .int .i64 b] w fun x w' => x = .returned (.int .i64 e) ∧ DrvL w0 w' dd gf g bw be blocks (ticks + t) s' := by
  obtain ⟨S, h⟩ := h
  refine (erase_c h hc t0 t1 ha ha').mono ?_
  rintro x w' ⟨rfl, p, _⟩
  rw [q.out] at p ⊢
  exact ⟨rfl, _, p⟩
theorem lockOn_o (h : DrvL w0 w dd gf g bw be blocks ticks s) (hc : Cf.Calm s) {b e : Int} (ha : -100000000000000 ≤ b) (ha' : b ≤ 100000000000000) (q : Hid (Cf.lw s b true = (e, s'))) :
    Calls Try.prog 18 #[.pointer (some ⟨dd, 0, none⟩), .int .i64 b, .bool true] w fun x w' => x = .returned (.int .i64 e) ∧ DrvL w0 w' dd gf g bw be blocks ticks s' := by
  obtain ⟨S, h⟩ := h
  refine (lockOn h hc ha ha').mono ?_
  rintro x w' ⟨rfl, p, _⟩
  rw [q.out] at p ⊢
  exact ⟨rfl, _, p⟩
theorem lockOff_o (h : DrvL w0 w dd gf g bw be blocks ticks s) (hc : Cf.Calm s) {b e : Int} (ha : -100000000000000 ≤ b) (ha' : b ≤ 100000000000000) (q : Hid (Cf.lw s b false = (e, s'))) :
    Calls Try.prog 18 #[.pointer (some ⟨dd, 0, none⟩), .int .i64 b, .bool false] w fun x w' => x = .returned (.int .i64 e) ∧ DrvL w0 w' dd gf g bw be blocks ticks s' := by
  obtain ⟨S, h⟩ := h
  refine (lockOff h hc ha ha').mono ?_
  rintro x w' ⟨rfl, p, _⟩
  rw [q.out] at p ⊢
  exact ⟨rfl, _, p⟩
/-- Words that the call lays down itself. -/
theorem program_lit (h : DrvL w0 w dd gf g bw be blocks ticks s) (hc : Cf.Calm s) (t0 : 0 ≤ ticks) (t1 : ticks ≤ 900000000) {at_ e t : Int} (ha : -100000000000 ≤ at_) (ha' : at_ ≤ 100000000000) {zs : List Int} {cs : Array Value} {cap : Nat} (hlen : zs.length ≤ 64)
    (hz : Hid (∀ i : Nat, 0 ≤ zs.getD i 0 ∧ zs.getD i 0 < 4294967296)) (hcs : ∀ i, i < zs.length → cs[i]? = some (.int .u32 (zs.getD i 0))) (q : Hid (Cf.pws s at_ zs = (e, t, s'))) :
    Calls Try.prog 11 #[.pointer (some ⟨dd, 0, none⟩), .int .i64 at_, .slice (some ⟨w.heap.size, 0, none⟩) zs.length cap] (w.alloc (.cells cs 34)) fun x w' => x = .returned (.int .i64 e) ∧ DrvL w0 w' dd gf g bw be blocks (ticks + t) s' := by
  obtain ⟨S, h⟩ := h
  have hW := h.then ((Below.refl _ w).alloc (Nat.le_refl _) (.cells cs 34))
  refine (program_c (zs := zs) (b := w.heap.size) (off := 0) hW hc t0 t1 ha ha' hlen hz (fun _ _ => rfl) (fun i hi => ?_) (fresh_not h (Nat.le_refl _))).mono ?_
  · rw [Nat.zero_add, World.cell?_alloc_mark w cs 34 (0, 0) i]; exact hcs i hi
  · rintro x w' ⟨rfl, p, _⟩
    rw [q.out] at p ⊢
    exact ⟨rfl, _, p⟩
theorem program_o (h : DrvL w0 w dd gf g bw be blocks ticks s) (hc : Cf.Calm s) (t0 : 0 ≤ ticks) (t1 : ticks ≤ 900000000) {at_ e t : Int} (ha : -100000000000 ≤ at_) (ha' : at_ ≤ 100000000000) {zs : List Int} {a : Option Addr} {cap b off : Nat} (hlen : zs.length ≤ 64)
    (hz : Hid (∀ i : Nat, 0 ≤ zs.getD i 0 ∧ zs.getD i 0 < 4294967296)) (hA : ∀ i, i < zs.length → a = some ⟨b, off, none⟩) (hcell : Hid (∀ i, i < zs.length → w0.cell? ⟨b, off + i, none⟩ = some (.int .u32 (zs.getD i 0)))) (q : Hid (Cf.pws s at_ zs = (e, t, s'))) :
    Calls Try.prog 11 #[.pointer (some ⟨dd, 0, none⟩), .int .i64 at_, .slice a zs.length cap] w fun x w' => x = .returned (.int .i64 e) ∧ DrvL w0 w' dd gf g bw be blocks (ticks + t) s' := by
  obtain ⟨S, h⟩ := h
  by_cases hl : zs.length = 0
  · have nb : ¬ Mine S dd (w.heap.size) := fresh_not h (Nat.le_refl _)
    refine (program_c (zs := zs) (b := w.heap.size) (off := off) h hc t0 t1 ha ha' hlen hz (fun i hi => absurd hi (by omega)) (fun i hi => absurd hi (by omega)) nb).mono ?_
    rintro x w' ⟨rfl, p, _⟩
    rw [q.out] at p ⊢
    exact ⟨rfl, _, p⟩
  · have hb0 : b < w0.heap.size := by
      have := hcell.out 0 (by omega)
      unfold World.cell? at this
      split at this
      · rename_i e; exact (Array.getElem?_eq_some_iff.1 e).1
      · cases this
    have nb : ¬ Mine S dd b := fun e => e.elim (fun e => by have := h.fl.lo b e; omega) (fun e => by have := h.ld; omega)
    refine (program_c (zs := zs) (b := b) (off := off) h hc t0 t1 ha ha' hlen hz hA (fun i hi => Sl.below_cell h.fl.own.below (hcell.out i hi)) nb).mono ?_
    rintro x w' ⟨rfl, p, _⟩
    rw [q.out] at p ⊢
    exact ⟨rfl, _, p⟩
theorem read_o (h : DrvL w0 w dd gf g bw be blocks ticks s) (hc : Cf.Calm s) {at_ n : Nat} (n1 : 1 ≤ n) (n2 : n ≤ 64) (hin : at_ + n ≤ s.c.words.length) (hoff : s.c.off = false) {zs : List Int} (hl : zs.length = n) (hzs : Hid (∀ i, i < n → zs.getD i 0 = s.c.words.getD (at_ + i) 0)) :
    Calls Try.prog 16 #[.pointer (some ⟨dd, 0, none⟩), .int .i64 at_, .int .i64 n] w fun x w' => ∃ r, x = .returned (.tuple #[.slice (some ⟨r, 0, none⟩) n n, .int .i64 0]) ∧ w.heap.size ≤ r ∧ Row w' r zs ∧ DrvL w0 w' dd gf g bw be blocks ticks { s with mode := 0 } := by
  obtain ⟨S, h⟩ := h
  refine (read_ok h hc n1 n2 hin hoff hl hzs).mono ?_
  rintro x w' ⟨r, S', rfl, h1, h2, p, _⟩
  exact ⟨r, rfl, h1, h2, _, p⟩
theorem ticks_o (h : DrvL w0 w dd gf g bw be blocks ticks s) : Calls Try.prog 12 #[.pointer (some ⟨dd, 0, none⟩)] w fun e w' => e = .returned (.int .i64 ticks) ∧ w = w' := by
  obtain ⟨S, h⟩ := h; exact ticks_c h
theorem blocks_o (h : DrvL w0 w dd gf g bw be blocks ticks s) : Calls Try.prog 19 #[.pointer (some ⟨dd, 0, none⟩)] w fun e w' => e = .returned (.int .i64 blocks) ∧ w = w' := by
  obtain ⟨S, h⟩ := h; exact blocks_c h
end
end Drv
/-- A driver, and blocks that are none of its own. -/
def DrvR (P : Nat → Prop) (w0 w : World) (dd gf g bw be : Nat) (blocks ticks : Int) (s : Cf.Fl) : Prop := ∃ S, DrvAt S w0 w dd gf g bw be blocks ticks s ∧ ∀ k, P k → k < w.heap.size ∧ ¬ Mine S dd k
section
variable {P : Nat → Prop} {w0 w w' : World} {dd gf g bw be : Nat} {blocks ticks : Int} {s s' : Cf.Fl}
theorem DrvL.none (h : DrvL w0 w dd gf g bw be blocks ticks s) : DrvR (fun _ => False) w0 w dd gf g bw be blocks ticks s := by obtain ⟨S, h⟩ := h; exact ⟨S, h, fun _ e => e.elim⟩
theorem DrvR.lt (h : DrvR P w0 w dd gf g bw be blocks ticks s) {k : Nat} (hk : P k) : k < w.heap.size := by obtain ⟨S, h, hp⟩ := h; exact (hp k hk).1
theorem DrvR.drvL (h : DrvR P w0 w dd gf g bw be blocks ticks s) : DrvL w0 w dd gf g bw be blocks ticks s := by obtain ⟨S, h, _⟩ := h; exact ⟨S, h⟩
theorem DrvR.then (h : DrvR P w0 w dd gf g bw be blocks ticks s) (hb : Below w.heap.size w w') : DrvR P w0 w' dd gf g bw be blocks ticks s := by
  obtain ⟨S, h, hp⟩ := h; exact ⟨S, h.then hb, fun k hk => ⟨Nat.lt_of_lt_of_le (hp k hk).1 hb.size, (hp k hk).2⟩⟩
theorem _root_.Go.Proofs.Ytfghlfolejpjjaa.Row.same {w w' : World} {r : Nat} {zs : List Int} (h : Row w r zs) (e : w'.heap[r]? = w.heap[r]?) : Row w' r zs := by
  obtain ⟨cur, h1, h2⟩ := h; exact ⟨cur, e.trans h1, h2⟩
theorem DrvR.up {S S' : Nat → Prop} (h : DrvAt S w0 w dd gf g bw be blocks ticks s) (hp : ∀ k, P k → k < w.heap.size ∧ ¬ Mine S dd k) {b2 t2 : Int} (h' : DrvAt S' w0 w' dd gf g bw be b2 t2 s') (hS : ∀ k, S' k → Sx S w w' k) (hK : Keep (Mine S dd) w w') : DrvR P w0 w' dd gf g bw be b2 t2 s' :=
  ⟨S', h', fun k hk => ⟨Nat.lt_of_lt_of_le (hp k hk).1 hK.size, fun e => (hp k hk).2 (e.elim (fun e => (hS k e).elim .inl (fun e => by have := (hp k hk).1; omega)) .inr)⟩⟩
end
namespace Drv
section
variable {P : Nat → Prop} {w0 w w' : World} {dd gf g bw be : Nat} {blocks ticks : Int} {s s' : Cf.Fl}
theorem erase_r (h : DrvR P w0 w dd gf g bw be blocks ticks s) (hc : Cf.Calm s) (t0 : 0 ≤ ticks) (t1 : ticks ≤ 1000000000) {b e t : Int} (ha : -100000000000000 ≤ b) (ha' : b ≤ 100000000000000) (q : Hid (Cf.ew s b = (e, t, s'))) :
    Calls Try.prog 13 #[.pointer (some ⟨dd, 0, none⟩), .int .i64 b] w fun x w' => x = .returned (.int .i64 e) ∧ DrvR P w0 w' dd gf g bw be blocks (ticks + t) s' ∧ ∀ k, P k → w'.heap[k]? = w.heap[k]? := by
  obtain ⟨S, h, hp⟩ := h
  refine (erase_c h hc t0 t1 ha ha').mono ?_
  rintro x w' ⟨rfl, p, k⟩
  rw [q.out] at p ⊢
  exact ⟨rfl, DrvR.up h hp p (fun _ h => h) k, fun i hi => k.block i (hp i hi).1 (hp i hi).2⟩
theorem read_r (h : DrvR P w0 w dd gf g bw be blocks ticks s) (hc : Cf.Calm s) {at_ n : Nat} (n1 : 1 ≤ n) (n2 : n ≤ 64) (hin : at_ + n ≤ s.c.words.length) (hoff : s.c.off = false) {zs : List Int} (hl : zs.length = n) (hzs : Hid (∀ i, i < n → zs.getD i 0 = s.c.words.getD (at_ + i) 0)) :
    Calls Try.prog 16 #[.pointer (some ⟨dd, 0, none⟩), .int .i64 at_, .int .i64 n] w fun x w' => ∃ r, x = .returned (.tuple #[.slice (some ⟨r, 0, none⟩) n n, .int .i64 0]) ∧ w.heap.size ≤ r ∧ Row w' r zs ∧ DrvR (fun k => P k ∨ k = r) w0 w' dd gf g bw be blocks ticks { s with mode := 0 } ∧ ∀ k, P k → w'.heap[k]? = w.heap[k]? := by
  obtain ⟨S, h, hp⟩ := h
  refine (read_ok h hc n1 n2 hin hoff hl hzs).mono ?_
  rintro x w' ⟨r, S', rfl, h1, h2, p, p2, p3, k⟩
  have hr := h2
  obtain ⟨cur, hr, _⟩ := hr
  refine ⟨r, rfl, h1, h2, ⟨S', p, fun i hi => ?_⟩, fun i hi => k.block i (hp i hi).1 (hp i hi).2⟩
  rcases hi with hi | rfl
  · obtain ⟨S2, _, q⟩ := DrvR.up h hp p p2 k
    exact ⟨Nat.lt_of_lt_of_le (hp i hi).1 k.size, fun e => (hp i hi).2 (e.elim (fun e => (p2 i e).elim .inl (fun e => by have := (hp i hi).1; omega)) .inr)⟩
  · exact ⟨(Array.getElem?_eq_some_iff.1 hr).1, p3⟩
end
end Drv
end Go.Proofs.Ytfghlfolejpjjaa

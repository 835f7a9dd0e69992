/- Chips that the law itself has made: each call's contract, its answer given by an equation. -/
import Derived.Test.YtfghlfolejpjjaaNew
namespace Go.Proofs.Ytfghlfolejpjjaa
open Go.RowKit
set_option linter.unusedVariables false
/-- A chip made since w0; nothing that was there at w0 has turned. -/
structure Own (w0 w : World) (g bw be : Nat) (c : Nr.C) : Prop where
  chip : Chip w g bw be c
  lg : w0.heap.size ≤ g
  lw : w0.heap.size ≤ bw
  le : w0.heap.size ≤ be
  below : Below w0.heap.size w0 w
theorem Below.then {w0 w w' : World} (h : Below w0.heap.size w0 w) (hb : Below w.heap.size w w') : Below w0.heap.size w0 w' :=
  h.trans ⟨hb.os, hb.tape, hb.output, hb.size, fun k hk => hb.block k (Nat.lt_of_lt_of_le hk h.size)⟩
section
variable {w0 w w' : World} {g bw be : Nat} {c c' : Nr.C}
theorem Own.keep {S : Nat → Prop} (h : Own w0 w g bw be c) (hC : Chip w' g bw be c') (hK : Keep S w w') (hs : ∀ k, S k → k = g ∨ k = bw ∨ k = be) : Own w0 w' g bw be c' :=
  ⟨hC, h.lg, h.lw, h.le, ⟨hK.os.trans h.below.os, hK.tape.trans h.below.tape, hK.output.trans h.below.output, Nat.le_trans h.below.size hK.size, fun k hk =>
    (hK.block k (Nat.lt_of_lt_of_le hk h.below.size) (fun s => by have := h.lg; have := h.lw; have := h.le; rcases hs k s with e | e | e <;> omega)).trans (h.below.block k hk)⟩⟩
theorem Own.drewN (h : Own w0 w g bw be c) (n : Nat) : Own w0 (w.drewN n) g bw be c := ⟨h.chip.drewN n, h.lg, h.lw, h.le, ⟨h.below.os, h.below.tape, h.below.output, h.below.size, h.below.block⟩⟩
theorem Own.then (h : Own w0 w g bw be c) (hb : Below w.heap.size w w') : Own w0 w' g bw be c := ⟨h.chip.below hb, h.lg, h.lw, h.le, Below.then h.below hb⟩
end
namespace Nr
/-- What a reading answers. -/
def reads (c : C) (at_ : Int) : Int × Int := (if wrong c at_ ((c.wear.length : Int) * 64) = 0 then c.words.getD at_.toNat 0 else 0, wrong c at_ ((c.wear.length : Int) * 64))
def worn (c : C) (b : Int) : Int := if b < 0 then 0 else c.wear.getD b.toNat 0
end Nr
namespace Nor
section
variable {w0 w : World} {g bw be : Nat} {c c' : Nr.C}
theorem new_o (h : Below w0.heap.size w0 w) {n : Nat} {endure : Int} (h1 : 1 ≤ n) (h2 : n ≤ 64) (he : 0 ≤ endure) (he2 : Hid (endure ≤ 9223372036854775807)) (q : Hid (Nr.new n endure = c)) :
    Calls Try.prog 46 #[.int .i64 n, .int .i64 endure] w fun e w' => ∃ g bw be, e = .returned (.pointer (some ⟨g, 0, none⟩)) ∧ Own w0 w' g bw be c := by
  refine (new_c h1 h2 he he2.out).mono ?_
  rintro e w' ⟨g, bw, be, rfl, p1, p2, p3, p4, p5⟩
  have s := h.size
  exact ⟨g, bw, be, rfl, q.out ▸ p1, by omega, by omega, by omega, Below.then h p5⟩
theorem program_o (h : Own w0 w g bw be c) {at_ v e : Int} (hv0 : 0 ≤ v) (hv1 : v < 4294967296) (q : Hid (Nr.programs c at_ v = (e, c'))) :
    Calls Try.prog 87 #[.pointer (some ⟨g, 0, none⟩), .int .i64 at_, .int .u32 v] w fun x w' => x = .returned (.int .i64 e) ∧ Own w0 w' g bw be c' := by
  refine (program_c h.chip at_ v hv0 hv1).mono ?_
  rintro x w' ⟨rfl, hC, hK⟩
  rw [q.out] at hC ⊢
  exact ⟨rfl, h.keep hC hK (fun k s => by rcases s with s | s <;> simp [s])⟩
theorem erase_o (h : Own w0 w g bw be c) {b e : Int} (q : Hid (Nr.erases c b = (e, c'))) :
    Calls Try.prog 89 #[.pointer (some ⟨g, 0, none⟩), .int .i64 b] w fun x w' => x = .returned (.int .i64 e) ∧ Own w0 w' g bw be c' := by
  refine (erase_c h.chip b).mono ?_
  rintro x w' ⟨rfl, hC, hK⟩
  rw [q.out] at hC ⊢
  exact ⟨rfl, h.keep hC hK (fun k s => s)⟩
theorem fuse_o (h : Own w0 w g bw be c) {n p : Int} (hn : Hid (n ≤ 9223372036854775807)) (hp : 0 ≤ p) (hp' : p < 4294967296) (q : Hid (Nr.fuse c n p = c')) :
    Calls Try.prog 22 #[.pointer (some ⟨g, 0, none⟩), .int .i64 n, .int .u32 p] w fun x w' => x = .returned (.tuple #[]) ∧ Own w0 w' g bw be c' := by
  refine (fuse_c h.chip n p hn hp hp').mono ?_
  rintro x w' ⟨rfl, hC, hK⟩
  rw [q.out] at hC
  exact ⟨rfl, h.keep hC hK (fun k s => .inl s)⟩
theorem on_o (h : Own w0 w g bw be c) (q : Hid (Nr.on c = c')) :
    Calls Try.prog 30 #[.pointer (some ⟨g, 0, none⟩)] w fun x w' => x = .returned (.tuple #[]) ∧ Own w0 w' g bw be c' := by
  refine (on_c h.chip).mono ?_
  rintro x w' ⟨rfl, hC, hK⟩
  rw [q.out] at hC
  exact ⟨rfl, h.keep hC hK (fun k s => .inl s)⟩
theorem read_o (h : Own w0 w g bw be c) {at_ v e : Int} (q : Hid (Nr.reads c at_ = (v, e))) :
    Calls Try.prog 58 #[.pointer (some ⟨g, 0, none⟩), .int .i64 at_] w fun x w' => x = .returned (.tuple #[.int .u32 v, .int .i64 e]) ∧ w = w' := by
  refine (read_c h.chip at_).mono ?_
  rintro x w' ⟨rfl, rfl⟩
  have q' := q.out
  unfold Nr.reads at q'
  rw [Prod.mk.injEq] at q'
  rw [q'.1, q'.2]
  exact ⟨rfl, rfl⟩
theorem wear_o (h : Own w0 w g bw be c) {b n : Int} (q : Hid (Nr.worn c b = n)) :
    Calls Try.prog 14 #[.pointer (some ⟨g, 0, none⟩), .int .i64 b] w fun x w' => x = .returned (.int .i64 n) ∧ w = w' := by
  refine (wear_c h.chip b).mono ?_
  rintro x w' ⟨rfl, rfl⟩
  rw [← q.out]
  exact ⟨rfl, rfl⟩
theorem blocks_o (h : Own w0 w g bw be c) {n : Int} (q : Hid ((c.wear.length : Int) = n)) :
    Calls Try.prog 41 #[.pointer (some ⟨g, 0, none⟩)] w fun x w' => x = .returned (.int .i64 n) ∧ w = w' := by
  refine (blocks_c h.chip).mono ?_
  rintro x w' ⟨rfl, rfl⟩
  rw [q.out]
  exact ⟨rfl, rfl⟩
theorem up_o (h : Own w0 w g bw be c) {b : Bool} (q : Hid ((!c.off) = b)) :
    Calls Try.prog 23 #[.pointer (some ⟨g, 0, none⟩)] w fun x w' => x = .returned (.bool b) ∧ w = w' := by
  refine (up_c h.chip).mono ?_
  rintro x w' ⟨rfl, rfl⟩
  rw [q.out]
  exact ⟨rfl, rfl⟩
theorem words_o (h : Own w0 w g bw be c) {zs : List Int} (q : Hid (c.words = zs)) :
    Calls Try.prog 15 #[.pointer (some ⟨g, 0, none⟩)] w fun x w' => ∃ a kap, x = .returned (.slice (some ⟨a, 0, none⟩) zs.length kap) ∧ zs.length ≤ kap ∧ w.heap.size ≤ a ∧ Row w' a zs ∧ Own w0 w' g bw be c ∧ Below w.heap.size w w' := by
  refine (words_c h.chip).mono ?_
  rintro x w' ⟨a, kap, rfl, h1, h2, h3, h4⟩
  rw [q.out] at h1 h3 ⊢
  exact ⟨a, kap, rfl, h1, h2, h3, h.then h4, h4⟩
/-! The same, with what has turned. -/
def Three (g bw be : Nat) (k : Nat) : Prop := k = g ∨ k = bw ∨ k = be
theorem program_k (h : Own w0 w g bw be c) {at_ v e : Int} (hv0 : 0 ≤ v) (hv1 : v < 4294967296) (q : Hid (Nr.programs c at_ v = (e, c'))) :
    Calls Try.prog 87 #[.pointer (some ⟨g, 0, none⟩), .int .i64 at_, .int .u32 v] w fun x w' => x = .returned (.int .i64 e) ∧ Own w0 w' g bw be c' ∧ Keep (Three g bw be) w w' := by
  refine (program_c h.chip at_ v hv0 hv1).mono ?_
  rintro x w' ⟨rfl, hC, hK⟩
  rw [q.out] at hC ⊢
  exact ⟨rfl, h.keep hC hK (fun k s => by rcases s with s | s <;> simp [s]), hK.mono fun k _ s => s.imp_right .inl⟩
theorem erase_k (h : Own w0 w g bw be c) {b e : Int} (q : Hid (Nr.erases c b = (e, c'))) :
    Calls Try.prog 89 #[.pointer (some ⟨g, 0, none⟩), .int .i64 b] w fun x w' => x = .returned (.int .i64 e) ∧ Own w0 w' g bw be c' ∧ Keep (Three g bw be) w w' := by
  refine (erase_c h.chip b).mono ?_
  rintro x w' ⟨rfl, hC, hK⟩
  rw [q.out] at hC ⊢
  exact ⟨rfl, h.keep hC hK (fun k s => s), hK⟩
theorem fuse_k (h : Own w0 w g bw be c) {n p : Int} (hn : Hid (n ≤ 9223372036854775807)) (hp : 0 ≤ p) (hp' : p < 4294967296) (q : Hid (Nr.fuse c n p = c')) :
    Calls Try.prog 22 #[.pointer (some ⟨g, 0, none⟩), .int .i64 n, .int .u32 p] w fun x w' => x = .returned (.tuple #[]) ∧ Own w0 w' g bw be c' ∧ Keep (Three g bw be) w w' := by
  refine (fuse_c h.chip n p hn hp hp').mono ?_
  rintro x w' ⟨rfl, hC, hK⟩
  rw [q.out] at hC
  exact ⟨rfl, h.keep hC hK (fun k s => .inl s), hK.mono fun k _ s => .inl s⟩
theorem on_k (h : Own w0 w g bw be c) (q : Hid (Nr.on c = c')) :
    Calls Try.prog 30 #[.pointer (some ⟨g, 0, none⟩)] w fun x w' => x = .returned (.tuple #[]) ∧ Own w0 w' g bw be c' ∧ Keep (Three g bw be) w w' := by
  refine (on_c h.chip).mono ?_
  rintro x w' ⟨rfl, hC, hK⟩
  rw [q.out] at hC
  exact ⟨rfl, h.keep hC hK (fun k s => .inl s), hK.mono fun k _ s => .inl s⟩
end
end Nor
end Go.Proofs.Ytfghlfolejpjjaa

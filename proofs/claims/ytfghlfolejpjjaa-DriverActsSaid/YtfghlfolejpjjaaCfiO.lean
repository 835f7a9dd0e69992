/- The contracts of package cfi, each answer given by an equation. -/
import Derived.Test.YtfghlfolejpjjaaCfi8
namespace Go.Proofs.Ytfghlfolejpjjaa
open Go.RowKit
set_option linter.unusedVariables false
/-- A flash; all of its blocks lie below T. -/
structure FlashAt (w0 w : World) (T gf g bw be : Nat) (s : Cf.Fl) : Prop where
  ex : ∃ S, FlashX S w0 w gf g bw be s ∧ ∀ k, S k → k < T
  tw : T ≤ w.heap.size
section
variable {w0 w w' : World} {T gf g bw be : Nat} {s s' : Cf.Fl}
theorem FlashAt.own (h : FlashAt w0 w T gf g bw be s) : Own w0 w g bw be s.c := by obtain ⟨S, h, _⟩ := h.ex; exact h.own
theorem FlashAt.ok (h : FlashAt w0 w T gf g bw be s) : s.ok := by obtain ⟨S, h, _⟩ := h.ex; exact h.ok
theorem FlashAt.then (h : FlashAt w0 w T gf g bw be s) (hb : Below w.heap.size w w') : FlashAt w0 w' T gf g bw be s := by
  obtain ⟨S, h1, h2⟩ := h.ex
  exact ⟨⟨S, h1.then hb, h2⟩, Nat.le_trans h.tw hb.size⟩
theorem FlashAt.chip {c' : Nr.C} (h : FlashAt w0 w T gf g bw be s) (hO : Own w0 w' g bw be c') (hK : Keep (Nor.Three g bw be) w w') (hj : ∀ j, s.job = some j → j.ok c') : FlashAt w0 w' T gf g bw be { s with c := c' } := by
  obtain ⟨S, h1, h2⟩ := h.ex
  exact ⟨⟨S, h1.chip hO hK hj, h2⟩, Nat.le_trans h.tw hK.size⟩
end
theorem FlashX.at_ {S : Nat → Prop} {w0 w : World} {gf g bw be : Nat} {s : Cf.Fl} (h : FlashX S w0 w gf g bw be s) : FlashAt w0 w w.heap.size gf g bw be s := ⟨⟨S, h, h.hi⟩, Nat.le_refl _⟩
namespace Cfi
section
variable {w0 w : World} {T gf g bw be : Nat} {s s' : Cf.Fl}
theorem write_o (h : FlashAt w0 w T gf g bw be s) {at_ v e : Int} (hv : 0 ≤ v) (hv' : v < 4294967296) (q : Hid (Cf.write s at_ v = (e, s'))) :
    Calls Try.prog 54 #[.pointer (some ⟨gf, 0, none⟩), .int .i64 at_, .int .u32 v] w fun x w' => x = .returned (.int .i64 e) ∧ FlashAt w0 w' w'.heap.size gf g bw be s' ∧ Keep (fun k => k < T) w w' := by
  obtain ⟨S, h1, h2⟩ := h.ex
  refine (write_c h1 hv hv').mono ?_
  rintro x w' ⟨rfl, p1, p2⟩
  rw [q.out] at p1 ⊢
  exact ⟨rfl, p1.at_, p2.mono fun k _ e => h2 k e⟩
theorem tick_o (h : FlashAt w0 w T gf g bw be s) {n e : Int} (q : Hid (Cf.tick s n = (e, s'))) :
    Calls Try.prog 56 #[.pointer (some ⟨gf, 0, none⟩), .int .i64 n] w fun x w' => x = .returned (.int .i64 e) ∧ FlashAt w0 w' w'.heap.size gf g bw be s' ∧ Keep (fun k => k < T) w w' := by
  obtain ⟨S, h1, h2⟩ := h.ex
  refine (tick_c h1).mono ?_
  rintro x w' ⟨rfl, p1, p2⟩
  rw [q.out] at p1 ⊢
  exact ⟨rfl, p1.at_, p2.mono fun k _ e => h2 k e⟩
theorem read_o (h : FlashAt w0 w T gf g bw be s) {at_ v e : Int} (q : Hid (Cf.read s at_ = (v, e))) :
    Calls Try.prog 43 #[.pointer (some ⟨gf, 0, none⟩), .int .i64 at_] w fun x w' => x = .returned (.tuple #[.int .u32 v, .int .i64 e]) ∧ FlashAt w0 w' T gf g bw be s ∧ Below w.heap.size w w' := by
  obtain ⟨S, h1, h2⟩ := h.ex
  refine (read_c h1).mono ?_
  rintro x w' ⟨rfl, p⟩
  rw [q.out]
  exact ⟨rfl, h.then p, p⟩
theorem status_o (h : FlashAt w0 w T gf g bw be s) {v : Int} (q : Hid (Cf.status s = v)) :
    Calls Try.prog 55 #[.pointer (some ⟨gf, 0, none⟩)] w fun x w' => x = .returned (.int .u32 v) ∧ w = w' := by
  obtain ⟨S, h1, h2⟩ := h.ex
  refine (status_c h1).mono ?_
  rintro x w' ⟨rfl, rfl⟩
  rw [q.out]
  exact ⟨rfl, rfl⟩
theorem reset_o (h : FlashAt w0 w T gf g bw be s) (q : Hid (Cf.reset s = s')) :
    Calls Try.prog 31 #[.pointer (some ⟨gf, 0, none⟩)] w fun x w' => x = .returned (.tuple #[]) ∧ FlashAt w0 w' w'.heap.size gf g bw be s' ∧ Keep (fun k => k < T) w w' := by
  obtain ⟨S, h1, h2⟩ := h.ex
  refine (reset_c h1).mono ?_
  rintro x w' ⟨rfl, p1, p2⟩
  rw [q.out] at p1
  exact ⟨rfl, p1.at_, p2.mono fun k _ e => h2 k e⟩
theorem begin_o {w0 w : World} (h : Below w0.heap.size w0 w) {n : Nat} {endure : Int} (h1 : 1 ≤ n) (h2 : n ≤ 64) (he : 0 ≤ endure) (he2 : Hid (endure ≤ 9223372036854775807)) (q : Hid (Cf.new (Nr.new n endure) = s)) :
    Calls Try.prog 20 #[.int .i64 n, .int .i64 endure] w fun e w' => ∃ g bw be gf, e = .returned (.tuple #[.pointer (some ⟨g, 0, none⟩), .pointer (some ⟨gf, 0, none⟩)]) ∧ FlashAt w0 w' w'.heap.size gf g bw be s := by
  refine (begin_c h h1 h2 he he2 (c := Nr.new n endure) rfl).mono ?_
  rintro e w' ⟨g, bw, be, gf, rfl, p⟩
  rw [q.out] at p
  exact ⟨g, bw, be, gf, rfl, p.at_⟩
theorem words_o (h : FlashAt w0 w T gf g bw be s) {zs : List Int} (q : Hid (s.c.words = zs)) :
    Calls Try.prog 15 #[.pointer (some ⟨g, 0, none⟩)] w fun x w' => ∃ a kap, x = .returned (.slice (some ⟨a, 0, none⟩) zs.length kap) ∧ zs.length ≤ kap ∧ T ≤ a ∧ Row w' a zs ∧ FlashAt w0 w' T gf g bw be s ∧ Below w.heap.size w w' := by
  refine (Nor.words_o h.own q).mono ?_
  rintro x w' ⟨a, kap, rfl, h1, h2, h3, h4, h5⟩
  exact ⟨a, kap, rfl, h1, Nat.le_trans h.tw h2, h3, h.then h5, h5⟩
end
end Cfi
end Go.Proofs.Ytfghlfolejpjjaa

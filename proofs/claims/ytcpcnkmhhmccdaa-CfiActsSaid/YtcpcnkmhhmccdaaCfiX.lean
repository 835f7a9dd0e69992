/- The flash's contracts by equations, its blocks told one by one; and the document's flash beside it. -/
import Derived.Test.YtcpcnkmhhmccdaaRE
import Derived.Test.YtcpcnkmhhmccdaaLive3
namespace Go.Proofs.Ytcpcnkmhhmccdaa
open Go.RowKit
set_option linter.unusedVariables false
namespace Cfi
section
variable {w0 w : World} {S : Nat → Prop} {gf g bw be : Nat} {s s' : Cf.Fl}
theorem write_y (h : FlashX S w0 w gf g bw be s) {at_ v e : Int} (hv : 0 ≤ v) (hv' : v < 4294967296) (q : Hid (Cf.write s at_ v = (e, s'))) :
    Calls Try.prog 14 #[.pointer (some ⟨gf, 0, none⟩), .int .i64 at_, .int .u32 v] w fun x w' => x = .returned (.int .i64 e) ∧ FlashX (Sx S w w') w0 w' gf g bw be s' ∧ Keep S w w' := by
  refine (write_c h hv hv').mono ?_
  rintro x w' ⟨rfl, p1, p2⟩
  rw [q.out] at p1 ⊢
  exact ⟨rfl, p1, p2⟩
theorem tick_y (h : FlashX S w0 w gf g bw be s) {n e : Int} (q : Hid (Cf.tick s n = (e, s'))) :
    Calls Try.prog 16 #[.pointer (some ⟨gf, 0, none⟩), .int .i64 n] w fun x w' => x = .returned (.int .i64 e) ∧ FlashX (Sx S w w') w0 w' gf g bw be s' ∧ Keep S w w' := by
  refine (tick_c h).mono ?_
  rintro x w' ⟨rfl, p1, p2⟩
  rw [q.out] at p1 ⊢
  exact ⟨rfl, p1, p2⟩
theorem read_y (h : FlashX S w0 w gf g bw be s) {at_ v e : Int} (q : Hid (Cf.read s at_ = (v, e))) :
    Calls Try.prog 13 #[.pointer (some ⟨gf, 0, none⟩), .int .i64 at_] w fun x w' => x = .returned (.tuple #[.int .u32 v, .int .i64 e]) ∧ Below w.heap.size w w' := by
  refine (read_c h).mono ?_
  rintro x w' ⟨rfl, p⟩
  rw [q.out]
  exact ⟨rfl, p⟩
theorem status_y (h : FlashX S w0 w gf g bw be s) {v : Int} (q : Hid (Cf.status s = v)) :
    Calls Try.prog 17 #[.pointer (some ⟨gf, 0, none⟩)] w fun x w' => x = .returned (.int .u32 v) ∧ w = w' := by
  refine (status_c h).mono ?_
  rintro x w' ⟨rfl, rfl⟩
  rw [q.out]
  exact ⟨rfl, rfl⟩
theorem reset_y (h : FlashX S w0 w gf g bw be s) (q : Hid (Cf.reset s = s')) :
    Calls Try.prog 15 #[.pointer (some ⟨gf, 0, none⟩)] w fun x w' => x = .returned (.tuple #[]) ∧ FlashX (Sx S w w') w0 w' gf g bw be s' ∧ Keep S w w' := by
  refine (reset_c h).mono ?_
  rintro x w' ⟨rfl, p1, p2⟩
  rw [q.out] at p1
  exact ⟨rfl, p1, p2⟩
/-- A flash, and the document's in box N, its rows at rw_ and re. -/
structure Pair (S : Nat → Prop) (w0 w : World) (N gf g bw be rw_ kw re ke : Nat) (s : Cf.Fl) : Prop where
  fl : FlashX S w0 w gf g bw be s
  eo : Rfl.Eo s.errs
  box : Rfl.Fbox w N rw_ kw re ke (Rfl.rf s)
  ref : Rnor.RAt w rw_ kw re ke s.c
  nN : ¬ S N
  n1 : ¬ S rw_
  n2 : ¬ S re
  lo : w0.heap.size ≤ N
theorem Pair.below {w' : World} {N rw_ kw re ke : Nat} (h : Pair S w0 w N gf g bw be rw_ kw re ke s) (b : Below w.heap.size w w') : Pair S w0 w' N gf g bw be rw_ kw re ke s :=
  ⟨h.fl.then b, h.eo, h.box.below b, h.ref.below b, h.nN, h.n1, h.n2, h.lo⟩
/-- The flash has turned; the document's has not yet. -/
structure Half (S : Nat → Prop) (w0 w : World) (N gf g bw be rw_ kw re ke : Nat) (s s' : Cf.Fl) : Prop where
  fl : FlashX S w0 w gf g bw be s'
  eo : Rfl.Eo s.errs
  ok : s.ok
  box : Rfl.Fbox w N rw_ kw re ke (Rfl.rf s)
  ref : Rnor.RAt w rw_ kw re ke s.c
  nN : ¬ S N
  n1 : ¬ S rw_
  n2 : ¬ S re
  lo : w0.heap.size ≤ N
theorem not_sx {w w' : World} {k : Nat} (h : ¬ S k) (hk : k < w.heap.size) : ¬ Sx S w w' k := by
  rintro (d | d)
  · exact h d
  · omega
theorem Pair.turn {w' : World} {N rw_ kw re ke : Nat} (h : Pair S w0 w N gf g bw be rw_ kw re ke s) (hF : FlashX (Sx S w w') w0 w' gf g bw be s') (hK : Keep S w w') : Half (Sx S w w') w0 w' N gf g bw be rw_ kw re ke s s' :=
  ⟨hF, h.eo, h.fl.ok, h.box.of (hK.block _ h.box.lt h.nN), h.ref.keep hK h.n1 h.n2, not_sx h.nN h.box.lt, not_sx h.n1 h.ref.words.lt, not_sx h.n2 h.ref.wear.lt, h.lo⟩
theorem Half.below {w' : World} {N rw_ kw re ke : Nat} (h : Half S w0 w N gf g bw be rw_ kw re ke s s') (b : Below w.heap.size w w') : Half S w0 w' N gf g bw be rw_ kw re ke s s' :=
  ⟨h.fl.then b, h.eo, h.ok, h.box.below b, h.ref.below b, h.nN, h.n1, h.n2, h.lo⟩
/-- The document's flash is laid into its box. -/
theorem Half.laid {w1 w2 : World} {N rw_ kw re ke a ka b kb : Nat} (h : Half S w0 w N gf g bw be rw_ kw re ke s s') (e : Rfl.Eo s'.errs) (hp : Rnor.RPost w w1 rw_ re a ka b kb s'.c) (hb : Rfl.Fbox w2 N a ka b kb (Rfl.rf s')) (hk : Keep (fun k => k = N) w1 w2) : Pair S w0 w2 N gf g bw be a ka b kb s' := by
  have F1 := h.fl.then hp.below
  have hi := h.fl.hi
  have nA : ¬ S a := by
    rcases hp.la with d | d
    · rw [d]; exact h.n1
    · intro d2; have := hi _ d2; omega
  have nB : ¬ S b := by
    rcases hp.lb with d | d
    · rw [d]; exact h.n2
    · intro d2; have := hi _ d2; omega
  have lN := h.lo
  refine ⟨F1.other hk (fun k hS hk => h.nN (hk ▸ hS)) (fun k hk => by omega), e, hb, ?_, h.nN, nA, nB, lN⟩
  have hb1 := h.box.below hp.below
  exact Rcfi.rat_away hp.at_ hb1 (by decide) (by decide) hk
end
end Cfi
end Go.Proofs.Ytcpcnkmhhmccdaa

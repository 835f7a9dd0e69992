/- Acts that hold words, handed in. -/
import Derived.Test.YtfghlfolejpjjaaArgs
namespace Go.Proofs.Ytfghlfolejpjjaa
open Go.RowKit
set_option linter.unusedVariables false
/-- What one act is: kind, place, many, words. -/
structure Act5 where
  k : Int
  t : Int
  m : Int
  wa : Option Addr
  wl : Nat
  wc : Nat
  ws : List Int
structure Act5.ok (w : World) (x : Act5) : Prop where
  k0 : 0 ≤ x.k ∧ x.k < 256
  t0 : -9223372036854775808 ≤ x.t ∧ x.t ≤ 9223372036854775807
  m0 : -9223372036854775808 ≤ x.m ∧ x.m ≤ 9223372036854775807
  len : x.ws.length = x.wl
  cap : x.wl ≤ x.wc
  max : x.wc ≤ maxLen
  rng : ∀ i : Nat, 0 ≤ x.ws.getD i 0 ∧ x.ws.getD i 0 < 4294967296
  at_ : ∃ b off, (∀ i, i < x.wl → x.wa = some ⟨b, off, none⟩) ∧ ∀ i, i < x.wl → w.cell? ⟨b, off + i, none⟩ = some (.int .u32 (x.ws.getD i 0))
theorem acts5_of {w : World} {a : Option Addr} {len cap : Nat} (s : Sh.ok w (.slice 4 (.agg 4 [(0, 1, .int .u8), (1, 1, .int .i64), (2, 1, .int .i64), (3, 1, .slice 1 (.int .u32))])) [.slice a len cap]) :
    ∃ (xs : Nat → Act5) (b off : Nat), len ≤ cap ∧ cap ≤ maxLen ∧ (∀ i : Nat, (xs i).ok w) ∧ (∀ i, i < len → a = some ⟨b, off, none⟩) ∧
      ∀ i, i < len → w.cell? ⟨b, off + i * 4, none⟩ = some (.int .u8 (xs i).k) ∧ w.cell? ⟨b, off + i * 4 + 1, none⟩ = some (.int .i64 (xs i).t) ∧ w.cell? ⟨b, off + i * 4 + 2, none⟩ = some (.int .i64 (xs i).m) ∧ w.cell? ⟨b, off + i * 4 + 3, none⟩ = some (.slice (xs i).wa (xs i).wl (xs i).wc) := by
  have zero : Act5.ok w ⟨0, 0, 0, none, 0, 0, []⟩ := ⟨by decide, by show (-9223372036854775808 : Int) ≤ 0 ∧ (0 : Int) ≤ 9223372036854775807; decide, by show (-9223372036854775808 : Int) ≤ 0 ∧ (0 : Int) ≤ 9223372036854775807; decide, rfl, Nat.le_refl _, Nat.zero_le _, fun i => by simp, 0, 0, fun i hi => absurd hi (Nat.not_lt_zero _), fun i hi => absurd hi (Nat.not_lt_zero _)⟩
  simp only [Sh.ok] at s
  rcases s with h | ⟨a', len', cap', h, h1, h2, h3⟩
  · simp at h
    obtain ⟨rfl, rfl, rfl⟩ := h
    exact ⟨fun _ => ⟨0, 0, 0, none, 0, 0, []⟩, 0, 0, Nat.le_refl _, Nat.zero_le _, fun _ => zero, fun i hi => by simp at hi, fun i hi => by simp at hi⟩
  · simp at h
    obtain ⟨rfl, rfl, rfl⟩ := h
    have each : ∀ i, ∃ x : Act5, x.ok w ∧ (i < len → w.cell? (a'.add (i * 4)) = some (.int .u8 x.k) ∧ w.cell? ((a'.add (i * 4)).add 1) = some (.int .i64 x.t) ∧ w.cell? ((a'.add (i * 4)).add 2) = some (.int .i64 x.m) ∧ w.cell? ((a'.add (i * 4)).add 3) = some (.slice x.wa x.wl x.wc)) := by
      intro i
      by_cases hi : i < len
      · obtain ⟨l, hl, hn, ho⟩ := h3 i hi
        obtain ⟨e1, e2⟩ := cells_each hl
        obtain ⟨p, q, r, u, rfl⟩ : ∃ p q r u, l = [p, q, r, u] := by
          match l, hn with
          | [p, q, r, u], _ => exact ⟨p, q, r, u, rfl⟩
        simp only [Sh.oks, Sh.ok] at ho
        obtain ⟨⟨n0, q0, w0⟩, ⟨n1, q1, w1⟩, ⟨n2, q2, w2⟩, hs, _⟩ := ho
        simp at q0 q1 q2
        subst q0 q1 q2
        have hsl : ∃ (wa : Option Addr) (wl wc : Nat), u = .slice wa wl wc ∧ Sh.ok w (.slice 1 (.int .u32)) [.slice wa wl wc] := by
          rcases hs with hs | ⟨wa, wl, wc, hs, r1, r2, r3⟩
          · simp at hs
            subst hs
            exact ⟨none, 0, 0, rfl, by simp only [Sh.ok]; exact .inl trivial⟩
          · simp at hs
            subst hs
            exact ⟨some wa, wl, wc, rfl, by simp only [Sh.ok]; exact .inr ⟨wa, wl, wc, rfl, r1, r2, r3⟩⟩
        obtain ⟨wa, wl, wc, rfl, hs2⟩ := hsl
        obtain ⟨zs, b, off, z1, z2, z3, z4, z5, z6⟩ := words_of hs2
        exact ⟨⟨n0, n1, n2, wa, wl, wc, zs⟩, ⟨wf_u8 w0, wf_i64 w1, wf_i64 w2, z1.symm, z2, z3, z4, b, off, fun i hi => z5 i (by simpa [z1] using hi), fun i hi => z6 i (by simpa [z1] using hi)⟩, fun _ => ⟨e2 0 (by decide), e2 1 (by decide), e2 2 (by decide), e2 3 (by decide)⟩⟩
      · exact ⟨⟨0, 0, 0, none, 0, 0, []⟩, zero, fun h => absurd h hi⟩
    obtain ⟨b, off, sp⟩ := a'
    have spot : 0 < len → sp = none := fun hl => by
      have := World.cell?_spot ((Classical.choose_spec (each 0)).2 hl).1
      simpa [Addr.add] using this
    refine ⟨fun i => Classical.choose (each i), b, off, h1, h2, fun i => (Classical.choose_spec (each i)).1, fun i hi => ?_, fun i hi => ?_⟩
    · rw [spot (by omega)]
    · have e := (Classical.choose_spec (each i)).2 hi
      dsimp only
      generalize Classical.choose (each i) = x at e ⊢
      rw [spot (by omega), add_none, add_none, add_none, add_none] at e
      exact e
end Go.Proofs.Ytfghlfolejpjjaa

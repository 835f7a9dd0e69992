/- What sectors are, and what one may be. Plain law: no program. -/
import Derived.RowKit
import Derived.Lib.Hide
namespace Go.Proofs.Ytlfabajceflpdaa.Md
open Go.RowKit
set_option linter.unusedVariables false
/-- What a sector has: four words. -/
structure V where
  a : Int
  b : Int
  c : Int
  d : Int
deriving DecidableEq
def V.z : V := ⟨0, 0, 0, 0⟩
/-- What sectors are, and what one may be. -/
structure St where
  sure : List V
  going : Bool
  at_ : Int
  next : V
deriving DecidableEq
def calm (l : List V) : St := ⟨l, false, 0, V.z⟩
def new (n : Int) : St := calm (List.replicate (min (max n 0) 1000).toNat V.z)
def has (s : St) (at_ : Int) : Bool := decide (0 ≤ at_) && decide (at_ < (s.sure.length : Int))
def done (s : St) (at_ : Int) (v : V) : St := if has s at_ then calm (s.sure.set at_.toNat v) else s
def begun (s : St) (at_ : Int) (v : V) : St := if has s at_ then { s with going := true, at_ := at_, next := v } else s
def may (s : St) (l : List V) : Bool := decide (l = s.sure) || (s.going && (has s s.at_ && decide (l = s.sure.set s.at_.toNat s.next)))
def seen (s : St) (l : List V) : St × Bool := if may s l then (calm l, true) else (s, false)
theorem has_true {s : St} {x : Int} (h : has s x = true) : ∃ k : Nat, x = k ∧ k < s.sure.length := by
  simp only [has, Bool.and_eq_true, decide_eq_true_eq] at h
  exact ⟨x.toNat, by omega, by omega⟩
theorem has_false {s : St} {x : Int} (h : has s x = false) : x < 0 ∨ (s.sure.length : Int) ≤ x := by
  simp only [has, Bool.and_eq_false_iff, decide_eq_false_iff_not] at h
  omega
theorem has_nat {s : St} {k : Nat} (h : k < s.sure.length) : has s k = true := by
  simp only [has, Bool.and_eq_true, decide_eq_true_eq]; omega
theorem ext_getD {l m : List V} (h : l.length = m.length) (g : ∀ i, i < l.length → l.getD i V.z = m.getD i V.z) : l = m := by
  apply List.ext_getElem h
  intro i h1 h2
  have := g i h1
  simpa [List.getD, h1, h2] using this
theorem getD_set (l : List V) (i j : Nat) (v : V) : (l.set i v).getD j V.z = if i = j ∧ i < l.length then v else l.getD j V.z := by
  by_cases h : i = j
  · subst h
    by_cases h2 : i < l.length
    · simp [List.getD, h2]
    · simp [List.getD, h2]
  · simp [List.getD, h]
/-- The document's way to tell what may be. -/
theorem may_iff (s : St) (l : List V) : may s l = true ↔ l.length = s.sure.length ∧ ∀ i, i < l.length → l.getD i V.z = s.sure.getD i V.z ∨ (s.going = true ∧ (i : Int) = s.at_ ∧ l.getD i V.z = s.next) := by
  constructor
  · intro h
    simp only [may, Bool.or_eq_true, Bool.and_eq_true, decide_eq_true_eq] at h
    rcases h with rfl | ⟨h1, h2, rfl⟩
    · exact ⟨rfl, fun i hi => .inl rfl⟩
    · obtain ⟨k, hk, hl⟩ := has_true h2
      refine ⟨by simp, fun i hi => ?_⟩
      rw [hk, Int.toNat_natCast, getD_set]
      by_cases e : k = i
      · subst e; exact .inr ⟨h1, rfl, if_pos ⟨rfl, hl⟩⟩
      · exact .inl (if_neg (fun h => e h.1))
  · rintro ⟨hl, h⟩
    simp only [may, Bool.or_eq_true, Bool.and_eq_true, decide_eq_true_eq]
    by_cases e : l = s.sure
    · exact .inl e
    · right
      have : ∃ i, i < l.length ∧ ¬ l.getD i V.z = s.sure.getD i V.z := by
        apply Classical.byContradiction
        intro hn
        exact e (ext_getD hl fun i hi => Classical.byContradiction fun hc => hn ⟨i, hi, hc⟩)
      obtain ⟨i, hi, hne⟩ := this
      rcases h i hi with h1 | ⟨g, ha, hx⟩
      · exact absurd h1 hne
      · refine ⟨g, by rw [← ha]; exact has_nat (by omega), ext_getD (by simpa using hl) fun j hj => ?_⟩
        rw [← ha, Int.toNat_natCast, getD_set]
        by_cases e : i = j
        · subst e; rw [if_pos ⟨rfl, by omega⟩]; exact hx
        · rw [if_neg (fun h => e h.1)]
          rcases h j hj with h1 | ⟨_, hb, _⟩
          · exact h1
          · omega
end Go.Proofs.Ytlfabajceflpdaa.Md

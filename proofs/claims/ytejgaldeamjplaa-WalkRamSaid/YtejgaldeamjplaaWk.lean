/- Walks through tables of pages. Plain law: no program. -/
import Derived.RowKit
import Derived.Lib.Hide
import Derived.Test.YtejgaldeamjplaaBt
import Derived.Test.YtejgaldeamjplaaBtLaws
namespace Go.Proofs.Ytejgaldeamjplaa.Wk
open Go.RowKit
set_option linter.unusedVariables false
/-- What is asked. -/
structure Ask where
  va : Int
  satp : Int
  status : Int
  access : Int
  priv : Int
structure Ask.Ok (a : Ask) : Prop where
  va0 : 0 ≤ a.va
  va1 : a.va < 4294967296
  satp0 : 0 ≤ a.satp
  satp1 : a.satp < 4294967296
  status0 : 0 ≤ a.status
  status1 : a.status < 4294967296
  acc : a.access = 0 ∨ a.access = 1 ∨ a.access = 2
  pri : a.priv = 0 ∨ a.priv = 1 ∨ a.priv = 3
def bit (w i : Int) : Bool := Bt.tb w i
/-- The word that is at a place. -/
def place (base : Int) (n : Nat) (at_ : Int) : Option Nat :=
  if base ≤ at_ ∧ at_ < 4294967296 ∧ at_ % 4 = 0 ∧ (at_ - base) % 4 = 0 ∧ (at_ - base) / 4 < (n : Int) then some ((at_ - base) / 4).toNat else none
def cause (access : Int) (page : Bool) : Int := if page then (if access = 0 then 12 else if access = 1 then 13 else 15) else (if access = 0 then 1 else if access = 1 then 5 else 7)
def frame (w : Int) : Int := Bt.field w 10 22
def lets (w : Int) (first : Bool) (a : Ask) : Bool :=
  if a.priv = 0 ∧ bit w 4 = false then false
  else if a.priv = 1 ∧ bit w 4 = true ∧ (a.access = 0 ∨ bit a.status 18 = false) then false
  else if first = true ∧ ¬ Bt.field w 10 10 = 0 then false
  else if a.access = 0 then bit w 3 else if a.access = 1 then bit w 1 || (bit w 3 && bit a.status 19) else bit w 2
def letsB (access priv : Int) (b1 b2 b3 b4 s18 s19 first ff : Bool) : Bool :=
  if priv = 0 ∧ b4 = false then false else if priv = 1 ∧ b4 = true ∧ (access = 0 ∨ s18 = false) then false else if first = true ∧ ff = false then false else if access = 0 then b3 else if access = 1 then b1 || (b3 && s19) else b2
theorem lets_B (w : Int) (first : Bool) (a : Ask) : lets w first a = letsB a.access a.priv (bit w 1) (bit w 2) (bit w 3) (bit w 4) (bit a.status 18) (bit a.status 19) first (decide (Bt.field w 10 10 = 0)) := by
  unfold lets letsB
  simp only [decide_eq_false_iff_not]
def marked (w access : Int) : Int := if access = 2 then Bt.put (Bt.put w 6 1 1) 7 1 1 else Bt.put w 6 1 1
def at_ (f va level : Int) : Int := f * 4096 + 4 * Bt.field va (12 + 10 * level) 10
/-- An entry of a table: where its word is; or why there is none. -/
def entry (base : Int) (zs : List Int) (f va level : Int) : Except Bool Nat :=
  match place base zs.length (at_ f va level) with
  | none => .error false
  | some i => if bit (zs.getD i 0) 0 = false ∨ (bit (zs.getD i 0) 2 = true ∧ bit (zs.getD i 0) 1 = false) then .error true else .ok i
def isLeaf (w : Int) : Bool := bit w 1 || bit w 3
def leaf (base : Int) (zs : List Int) (satp va : Int) : Except Bool (Nat × Bool) :=
  match entry base zs (Bt.field satp 0 22) va 1 with
  | .error p => .error p
  | .ok i => if isLeaf (zs.getD i 0) then .ok (i, true) else
    match entry base zs (frame (zs.getD i 0)) va 0 with
    | .error p => .error p
    | .ok j => if isLeaf (zs.getD j 0) then .ok (j, false) else .error true
def frameOf (w : Int) (first : Bool) (va : Int) : Int := if first then Bt.put (frame w) 0 10 (Bt.field va 12 10) else frame w
/-- The answer: the address, the cause, whether there is one; the words behind it. -/
structure Ans where
  pa : Int
  cause : Int
  is : Bool
  zs : List Int
def fin (zs : List Int) (a : Ask) (i : Nat) (first : Bool) : Ans :=
  if lets (zs.getD i 0) first a = false then ⟨0, cause a.access true, false, zs⟩
  else if 1048576 ≤ frameOf (zs.getD i 0) first a.va then ⟨0, cause a.access false, false, zs.set i (marked (zs.getD i 0) a.access)⟩
  else ⟨frameOf (zs.getD i 0) first a.va * 4096 + a.va % 4096, 0, true, zs.set i (marked (zs.getD i 0) a.access)⟩
def walked (base : Int) (zs : List Int) (a : Ask) : Ans :=
  match leaf base zs a.satp a.va with
  | .error p => ⟨0, cause a.access p, false, zs⟩
  | .ok (i, first) => fin zs a i first
def to (base : Int) (zs : List Int) (a : Ask) : Ans := if a.priv = 3 ∨ bit a.satp 31 = false then ⟨a.va, 0, true, zs⟩ else walked base zs a

/-! Places. -/
theorem place_lt {base : Int} {n : Nat} {x : Int} {i : Nat} (h : place base n x = some i) : i < n ∧ x = base + 4 * i ∧ x < 4294967296 ∧ x % 4 = 0 ∧ base ≤ x := by
  unfold place at h
  split at h
  · rename_i hc
    cases h
    omega
  · cases h
theorem place_of {base : Int} {n : Nat} {x : Int} {i : Nat} (h : i < n) (e : x = base + 4 * i) (h1 : x < 4294967296) (h2 : x % 4 = 0) : place base n x = some i := by
  unfold place
  rw [if_pos (by omega)]
  congr 1
  omega
theorem place_none {base : Int} {n : Nat} {x : Int} (h : place base n x = none) (i : Nat) (hi : i < n) (h1 : x < 4294967296) (h2 : x % 4 = 0) : ¬ x = base + 4 * i := by
  intro e
  rw [place_of hi e h1 h2] at h
  cases h

/-! Entries. -/
theorem entry_err {base : Int} {zs : List Int} {f va level : Int} {i : Nat} (h : entry base zs f va level = .ok i) : i < zs.length ∧ bit (zs.getD i 0) 0 = true ∧ (bit (zs.getD i 0) 2 = true → bit (zs.getD i 0) 1 = true) ∧ place base zs.length (at_ f va level) = some i := by
  unfold entry at h
  split at h
  · cases h
  · rename_i j hj
    split at h
    · cases h
    · rename_i hc
      cases h
      refine ⟨(place_lt hj).1, ?_, ?_, hj⟩
      · cases hb : bit (zs.getD i 0) 0
        · exact absurd (.inl hb) hc
        · rfl
      · intro h2
        cases hb : bit (zs.getD i 0) 1
        · exact absurd (.inr ⟨h2, hb⟩) hc
        · rfl
theorem entry_bad {base : Int} {zs : List Int} {f va level : Int} {p : Bool} (h : entry base zs f va level = .error p) : (p = false ∧ place base zs.length (at_ f va level) = none) ∨ (p = true ∧ ∃ i, place base zs.length (at_ f va level) = some i ∧ (bit (zs.getD i 0) 0 = false ∨ (bit (zs.getD i 0) 0 = true ∧ bit (zs.getD i 0) 2 = true ∧ bit (zs.getD i 0) 1 = false))) := by
  unfold entry at h
  split at h
  · rename_i hn
    cases h; exact .inl ⟨rfl, hn⟩
  · rename_i i hi
    split at h
    · rename_i hc
      cases h
      refine .inr ⟨rfl, i, hi, ?_⟩
      cases hb : bit (zs.getD i 0) 0
      · exact .inl rfl
      · rcases hc with e | ⟨e1, e2⟩
        · rw [hb] at e; cases e
        · exact .inr ⟨rfl, e1, e2⟩
    · cases h
theorem leaf_lt {base : Int} {zs : List Int} {satp va : Int} {i : Nat} {first : Bool} (h : leaf base zs satp va = .ok (i, first)) : i < zs.length ∧ isLeaf (zs.getD i 0) = true ∧ (bit (zs.getD i 0) 2 = true → bit (zs.getD i 0) 1 = true) := by
  unfold leaf at h
  split at h
  · cases h
  · rename_i j hj
    split at h
    · rename_i hl
      cases h
      exact ⟨(entry_err hj).1, hl, (entry_err hj).2.2.1⟩
    · split at h
      · cases h
      · rename_i k hk
        split at h
        · rename_i hl
          cases h
          exact ⟨(entry_err hk).1, hl, (entry_err hk).2.2.1⟩
        · cases h

/-! Laws. -/
theorem causes (base : Int) (zs : List Int) (a : Ask) : ((to base zs a).is = true → (to base zs a).cause = 0) ∧ ((to base zs a).is = false → (to base zs a).pa = 0 ∧ ((to base zs a).cause = cause a.access true ∨ (to base zs a).cause = cause a.access false) ∧ ¬ a.priv = 3 ∧ bit a.satp 31 = true) := by
  unfold to
  split
  · exact ⟨fun _ => rfl, (fun h => by cases h)⟩
  · rename_i hc
    have h1 : ¬ a.priv = 3 := fun e => hc (.inl e)
    have h2 : bit a.satp 31 = true := by
      cases hb : bit a.satp 31
      · exact absurd (.inr hb) hc
      · rfl
    unfold walked
    split
    · rename_i p _
      exact ⟨(fun h => by cases h), fun _ => ⟨rfl, (by cases p; exact .inr rfl; exact .inl rfl), h1, h2⟩⟩
    · unfold fin
      split
      · exact ⟨(fun h => by cases h), fun _ => ⟨rfl, .inl rfl, h1, h2⟩⟩
      · split
        · exact ⟨(fun h => by cases h), fun _ => ⟨rfl, .inr rfl, h1, h2⟩⟩
        · exact ⟨fun _ => rfl, (fun h => by cases h)⟩
end Go.Proofs.Ytejgaldeamjplaa.Wk

/- What a reading of an argument tells of its value: the shapes of whole numbers, bools, slices, structs and arrays, laid open by one law. -/
import Derived.WalkKit
import Derived.ProofKit
import Derived.OpenShut
import Derived.Below
namespace Go.Proofs.Ytfghlfolejpjjaa
open Go.RowKit

/-- The shape of a type's values. -/
inductive Sh where
  | int (k : IntKind)
  | bool
  | slice (size : Nat) (e : Sh)
  | agg (n : Nat) (fs : List (Nat × Nat × Sh))

mutual
/-- These cells are a value of that shape, and what they lead to is in memory. -/
def Sh.ok (w : World) : Sh → List Value → Prop
  | .int k, cs => ∃ n, cs = [.int k n] ∧ (Lit.int k n).wf = true
  | .bool, cs => ∃ b, cs = [.bool b]
  | .slice size e, cs => cs = [.slice none 0 0] ∨ ∃ a len cap, cs = [.slice (some a) len cap] ∧ len ≤ cap ∧ cap ≤ maxLen ∧ ∀ i, i < len → ∃ l, w.cells? 0 (a.add (i * size)) size = some l ∧ e.ok w l
  | .agg n fs, cs => cs.length = n ∧ Sh.oks w fs cs
def Sh.oks (w : World) : List (Nat × Nat × Sh) → List Value → Prop
  | [], _ => True
  | (o, size, s) :: r, cs => s.ok w ((cs.drop o).take size) ∧ Sh.oks w r cs
end

def Sh.of (P : Program) : Nat → TypeId → Option Sh
  | 0, _ => none
  | n + 1, t =>
    match P.underlying t with
    | some .bool => some .bool
    | some (.int k) => some (.int k)
    | some (.slice e) => (Sh.of P n e).map (.slice (P.cellsOf e))
    | some (.struct fs) => (fs.toList.mapM fun f => (Sh.of P n f.type).map fun s => (f.offset, P.cellsOf f.type, s)).map (.agg (P.cellsOf t))
    | some (.array k e) => (Sh.of P n e).map fun s => .agg (P.cellsOf t) ((List.range k).map fun i => (i * P.cellsOf e, P.cellsOf e, s))
    | _ => none

theorem mapM_mem {α β : Type} {g : α → Option β} : ∀ {l : List α} {r : List β}, l.mapM g = some r → ∀ x ∈ l, ∃ y, g x = some y
  | [], _, _, x, hx => by cases hx
  | a :: l, r, h, x, hx => by
    rw [List.mapM_cons] at h
    simp only [bind, Option.bind_eq_some_iff] at h
    obtain ⟨b, hb, c, hc, _⟩ := h
    cases hx with
    | head => exact ⟨b, hb⟩
    | tail _ hx => exact mapM_mem hc x hx

theorem oks_struct {P : Program} {n : Nat} {w : World} {cs : List Value} : ∀ {l : List Field} {fs : List (Nat × Nat × Sh)},
    (l.mapM fun f => (Sh.of P n f.type).map fun s => (f.offset, P.cellsOf f.type, s)) = some fs →
    (∀ f ∈ l, ∀ s, Sh.of P n f.type = some s → s.ok w ((cs.drop f.offset).take (P.cellsOf f.type))) → Sh.oks w fs cs
  | [], fs, h, _ => by
    simp at h; subst h; exact trivial
  | f :: l, fs, h, hf => by
    rw [List.mapM_cons] at h
    simp only [bind, Option.bind_eq_some_iff, Option.map_eq_some_iff, pure, Option.some.injEq] at h
    obtain ⟨b, ⟨s, hs, rfl⟩, c, hc, rfl⟩ := h
    exact ⟨hf f (List.mem_cons_self ..) s hs, oks_struct hc fun g hg => hf g (List.mem_cons_of_mem _ hg)⟩

theorem oks_array {w : World} {cs : List Value} {e : Nat} {s : Sh} : ∀ {l : List Nat}, (∀ i ∈ l, s.ok w ((cs.drop (i * e)).take e)) → Sh.oks w (l.map fun i => (i * e, e, s)) cs
  | [], _ => trivial
  | i :: _, h => ⟨h i (List.mem_cons_self ..), oks_array fun j hj => h j (List.mem_cons_of_mem _ hj)⟩

/-- What is read is of its type's shape. -/
theorem ok_of_trod {H : Type} {enc : TypeId × Value → H} {P : Program} {w : World} {spare : Nat → Bool} {held : Bool} :
    ∀ (n : Nat) {m : Nat} {t : TypeId} {cs : List Value} {x : DataW H × List MemPlace} {s : Sh}, Sh.of P n t = some s → DataW.trod enc P w 0 spare held m t cs = some x → s.ok w cs
  | 0, _, _, _, _, _, h, _ => by simp [Sh.of] at h
  | n + 1, 0, _, _, _, _, _, h => by simp [DataW.trod] at h
  | n + 1, m + 1, t, cs, x, s, hs, h => by
    simp only [Sh.of] at hs
    split at hs
    · rename_i hu
      obtain rfl := Option.some.inj hs
      simp only [DataW.trod, hu] at h
      split at h <;> first | (rename_i b _; exact ⟨_, rfl⟩) | (rename_i e1 e2; simp at e1; done) | (simp at h; done) | skip
      all_goals (first | exact ⟨_, rfl⟩ | simp_all)
    · rename_i k hu
      obtain rfl := Option.some.inj hs
      unfold DataW.trod at h
      rw [hu] at h
      match cs, h with
      | [.int k' v], h =>
        simp only at h
        split at h
        · rename_i hk; obtain ⟨rfl, hw⟩ := hk; exact ⟨v, rfl, hw⟩
        · cases h
    · rename_i e hu
      obtain ⟨s', hs', rfl⟩ := Option.map_eq_some_iff.1 hs
      unfold DataW.trod at h
      rw [hu] at h
      match cs, h with
      | [.slice none 0 0], _ => exact Or.inl rfl
      | [.slice (some a) len cap], h =>
        simp only at h
        split at h
        · rename_i hc
          simp only [Option.bind_eq_some_iff] at h
          obtain ⟨elems, he, _⟩ := h
          refine Or.inr ⟨a, len, cap, rfl, hc.2.1, hc.2.2, fun i hi => ?_⟩
          obtain ⟨y, hy⟩ := mapM_mem he i (List.mem_range.2 hi)
          obtain ⟨l, hl, hl'⟩ := Option.bind_eq_some_iff.1 hy
          exact ⟨l, hl, ok_of_trod n hs' hl'⟩
        · cases h
    · rename_i fs hu
      obtain ⟨l, hl, rfl⟩ := Option.map_eq_some_iff.1 hs
      unfold DataW.trod at h
      rw [hu] at h
      simp only at h
      split at h
      · rename_i hc
        obtain ⟨xs, hx, _⟩ := Option.map_eq_some_iff.1 h
        refine ⟨hc, oks_struct hl fun f hf s hs => ?_⟩
        obtain ⟨y, hy⟩ := mapM_mem hx f hf
        exact ok_of_trod n hs hy
      · cases h
    · rename_i k e hu
      obtain ⟨s', hs', rfl⟩ := Option.map_eq_some_iff.1 hs
      unfold DataW.trod at h
      rw [hu] at h
      simp only at h
      split at h
      · rename_i hc
        obtain ⟨xs, hx, _⟩ := Option.map_eq_some_iff.1 h
        refine ⟨hc, oks_array fun i hi => ?_⟩
        obtain ⟨y, hy⟩ := mapM_mem hx i hi
        exact ok_of_trod n hs' hy
      · cases h
    · cases hs

/-- The same of an argument. -/
theorem ok_of_Trod {H : Type} {enc : TypeId × Value → H} {P : Program} {w : World} {spare : Nat → Bool} {held : Bool} (n : Nat) {t : TypeId} {v : Value} {d : DataW H} {ps : List MemPlace} {s : Sh}
    (hs : Sh.of P n t = some s) (h : DataW.Trod enc P w 0 spare held t v d ps) : s.ok w v.cells.toList := by
  obtain ⟨m, hm⟩ := h
  exact ok_of_trod n hs hm

theorem okWide_array {P : Program} {w : World} {r : Reach} {base : Nat} {t : TypeId} {v : Value} {n : Nat} {e : TypeId} (ht : P.underlying t = some (.array n e)) (h : Value.okWide P w r base t v) : ∃ cs, v = .agg cs ∧ cs.size = P.cellsOf t := by
  simp only [Value.okWide, ht] at h
  obtain ⟨cs, h1, h2, _⟩ := h
  exact ⟨cs, h1, h2⟩

theorem wf_u8 {a : Int} (h : (Lit.int .u8 a).wf = true) : 0 ≤ a ∧ a < 256 := by
  have h1 : IntKind.u8.min = 0 := rfl
  have h2 : IntKind.u8.max = 255 := rfl
  simp only [Lit.wf, Bool.and_eq_true, decide_eq_true_eq] at h; omega
theorem wf_u16 {a : Int} (h : (Lit.int .u16 a).wf = true) : 0 ≤ a ∧ a < 65536 := by
  have h1 : IntKind.u16.min = 0 := rfl
  have h2 : IntKind.u16.max = 65535 := rfl
  simp only [Lit.wf, Bool.and_eq_true, decide_eq_true_eq] at h; omega
theorem wf_u32 {a : Int} (h : (Lit.int .u32 a).wf = true) : 0 ≤ a ∧ a < 4294967296 := by
  have h1 : IntKind.u32.min = 0 := rfl
  have h2 : IntKind.u32.max = 4294967295 := rfl
  simp only [Lit.wf, Bool.and_eq_true, decide_eq_true_eq] at h; omega
theorem wf_i8 {a : Int} (h : (Lit.int .i8 a).wf = true) : -128 ≤ a ∧ a ≤ 127 := by
  have h1 : IntKind.i8.min = -128 := rfl
  have h2 : IntKind.i8.max = 127 := rfl
  simp only [Lit.wf, Bool.and_eq_true, decide_eq_true_eq] at h; omega
theorem wf_i64 {a : Int} (h : (Lit.int .i64 a).wf = true) : -9223372036854775808 ≤ a ∧ a ≤ 9223372036854775807 := by
  have h1 : IntKind.i64.min = -9223372036854775808 := rfl
  have h2 : IntKind.i64.max = 9223372036854775807 := rfl
  simp only [Lit.wf, Bool.and_eq_true, decide_eq_true_eq] at h; omega

/-- A row of cells that is there, cell by cell. -/
theorem cells_each {w : World} {a : Addr} {n : Nat} {cs : List Value} (h : w.cells? 0 a n = some cs) : cs.length = n ∧ ∀ i, i < n → w.cell? (a.add i) = cs[i]? := by
  obtain ⟨h1, h2, h3⟩ := World.cells?_some h
  exact ⟨h2, h3⟩
end Go.Proofs.Ytfghlfolejpjjaa

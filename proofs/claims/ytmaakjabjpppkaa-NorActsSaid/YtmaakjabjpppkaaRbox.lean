/- Structs of six cells in boxes. -/
import Derived.Test.YtmaakjabjpppkaaOwn
import Derived.Laws.Rows
namespace Go.Proofs.Ytmaakjabjpppkaa
open Go.RowKit
set_option linter.unusedVariables false
theorem alloc1_below (w : World) (o1 : Obj) : Below w.heap.size w (w.alloc o1) := (Below.refl _ _).alloc (Nat.le_refl _) _
theorem alloc2_below (w : World) (o1 o2 : Obj) : Below w.heap.size w ((w.alloc o1).alloc o2) := (alloc1_below w o1).alloc (by simp) _
theorem alloc1_then {w w1 : World} {o1 : Obj} (b : Below (w.alloc o1).heap.size (w.alloc o1) w1) : w1.heap[w.heap.size]? = some o1 ∧ Below w.heap.size w w1 :=
  ⟨(b.block _ (by simp)).trans (heap_alloc_new w o1), Below.then (alloc1_below w o1) b⟩
theorem alloc2_then {w w1 : World} {o1 o2 : Obj} (b : Below ((w.alloc o1).alloc o2).heap.size ((w.alloc o1).alloc o2) w1) : w1.heap[w.heap.size]? = some o1 ∧ w1.heap[w.heap.size + 1]? = some o2 ∧ Below w.heap.size w w1 := by
  refine ⟨(b.block _ (by simp; omega)).trans ?_, (b.block _ (by simp)).trans ?_, Below.then (alloc2_below w o1 o2) b⟩
  · have := (alloc1_below (w.alloc o1) o2).block w.heap.size (by simp)
    exact this.trans (heap_alloc_new w o1)
  · have := heap_alloc_new (w.alloc o1) o2
    simpa using this
theorem cells6 {w : World} {b : Nat} {c0 c1 c2 c3 c4 c5 : Value} {t : TypeId} (h : w.heap[b]? = some (.cells #[c0, c1, c2, c3, c4, c5] t (0, 0))) : w.cell? ⟨b, 0, none⟩ = some c0 ∧ w.cell? ⟨b, 1, none⟩ = some c1 ∧ w.cell? ⟨b, 2, none⟩ = some c2 ∧ w.cell? ⟨b, 3, none⟩ = some c3 ∧ w.cell? ⟨b, 4, none⟩ = some c4 ∧ w.cell? ⟨b, 5, none⟩ = some c5 ∧ ∀ i, w.frozen? ⟨b, i, none⟩ = false := by
  simp only [World.cell?, World.frozen?, h]
  simp
theorem put6 {w : World} {r : Nat} {c0 c1 c2 c3 c4 c5 : Value} {t : TypeId} (h : w.heap[r]? = some (.cells #[c0, c1, c2, c3, c4, c5] t (0, 0))) (x0 x1 x2 x3 x4 x5 : Value) : ((((((w.setCell ⟨r, 0, none⟩ x0).setCell ⟨r, 1, none⟩ x1).setCell ⟨r, 2, none⟩ x2).setCell ⟨r, 3, none⟩ x3).setCell ⟨r, 4, none⟩ x4).setCell ⟨r, 5, none⟩ x5).heap[r]? = some (.cells #[x0, x1, x2, x3, x4, x5] t (0, 0)) :=
  heap_set (heap_set (heap_set (heap_set (heap_set (heap_set h 0 x0) 1 x1) 2 x2) 3 x3) 4 x4) 5 x5
theorem set_away {w : World} {r g j : Nat} (n : ¬ g = r) (x : Value) : (w.setCell ⟨r, j, none⟩ x).heap[g]? = w.heap[g]? := by
  simp only [World.setCell, Array.getElem?_modify, if_neg (fun e : r = g => n e.symm)]
theorem put6_away {w : World} {r g : Nat} (n : ¬ g = r) (x0 x1 x2 x3 x4 x5 : Value) : ((((((w.setCell ⟨r, 0, none⟩ x0).setCell ⟨r, 1, none⟩ x1).setCell ⟨r, 2, none⟩ x2).setCell ⟨r, 3, none⟩ x3).setCell ⟨r, 4, none⟩ x4).setCell ⟨r, 5, none⟩ x5).heap[g]? = w.heap[g]? := by
  rw [set_away n, set_away n, set_away n, set_away n, set_away n, set_away n]
theorem put6_below {w0 w : World} {r : Nat} (h : Below w0.heap.size w0 w) (hr : w0.heap.size ≤ r) (x0 x1 x2 x3 x4 x5 : Value) : Below w0.heap.size w0 ((((((w.setCell ⟨r, 0, none⟩ x0).setCell ⟨r, 1, none⟩ x1).setCell ⟨r, 2, none⟩ x2).setCell ⟨r, 3, none⟩ x3).setCell ⟨r, 4, none⟩ x4).setCell ⟨r, 5, none⟩ x5) := (((((h.setCell hr x0).setCell hr x1).setCell hr x2).setCell hr x3).setCell hr x4).setCell hr x5
end Go.Proofs.Ytmaakjabjpppkaa

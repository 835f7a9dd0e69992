/- Structs that a function lays at its start: what its cells read. -/
import Derived.Test.YtlfabajceflpdaaSec
import Derived.Laws.Rows
import Derived.Handy
import Derived.KernelRfl
namespace Go.Proofs.Ytlfabajceflpdaa
open Go.RowKit
set_option linter.unusedVariables false
theorem heap_set {w : World} {a : Nat} {cs : Array Value} {t : TypeId} (h : w.heap[a]? = some (.cells cs t (0, 0))) (j : Nat) (u : Value) : (w.setCell ⟨a, j, none⟩ u).heap[a]? = some (.cells (cs.setIfInBounds j u) t (0, 0)) := by
  simp only [World.setCell, Array.getElem?_modify, if_true, h, Option.map_some]
  rfl
theorem Below.then {w0 w w' : World} (h : Below w0.heap.size w0 w) (hb : Below w.heap.size w w') : Below w0.heap.size w0 w' :=
  h.trans ⟨hb.os, hb.tape, hb.output, hb.size, fun k hk => hb.block k (Nat.lt_of_lt_of_le hk h.size)⟩
theorem alloc1_then {w w1 : World} {o1 : Obj} (b : Below (w.alloc o1).heap.size (w.alloc o1) w1) : w1.heap[w.heap.size]? = some o1 ∧ Below w.heap.size w w1 :=
  ⟨(b.block _ (by simp)).trans (heap_alloc_new w o1), Below.then ((Below.refl _ w).alloc (Nat.le_refl _) o1) b⟩
theorem alloc2_below (w : World) (o1 o2 : Obj) : Below w.heap.size w ((w.alloc o1).alloc o2) := ((Below.refl _ w).alloc (Nat.le_refl _) o1).alloc (by simp) o2
theorem alloc3_below (w : World) (o1 o2 o3 : Obj) : Below w.heap.size w (((w.alloc o1).alloc o2).alloc o3) := (alloc2_below w o1 o2).alloc (by simp; omega) o3
theorem alloc1_below (w : World) (o1 : Obj) : Below w.heap.size w (w.alloc o1) := (Below.refl _ w).alloc (Nat.le_refl _) o1
theorem alloc2_then {w w1 : World} {o1 o2 : Obj} (b : Below ((w.alloc o1).alloc o2).heap.size ((w.alloc o1).alloc o2) w1) : w1.heap[w.heap.size]? = some o1 ∧ w1.heap[w.heap.size + 1]? = some o2 ∧ Below w.heap.size w w1 := by
  refine ⟨(b.block _ (by simp; omega)).trans ?_, (b.block _ (by simp)).trans ?_, Below.then (alloc2_below w o1 o2) b⟩
  · have := (alloc1_below (w.alloc o1) o2).block w.heap.size (by simp)
    exact this.trans (heap_alloc_new w o1)
  · have := heap_alloc_new (w.alloc o1) o2
    simpa using this
theorem alloc3_then {w w1 : World} {o1 o2 o3 : Obj} (b : Below (((w.alloc o1).alloc o2).alloc o3).heap.size (((w.alloc o1).alloc o2).alloc o3) w1) : w1.heap[w.heap.size]? = some o1 ∧ w1.heap[w.heap.size + 1]? = some o2 ∧ w1.heap[w.heap.size + 1 + 1]? = some o3 ∧ Below w.heap.size w w1 := by
  have h2 := alloc2_then (alloc1_below ((w.alloc o1).alloc o2) o3)
  refine ⟨(b.block _ (by simp; omega)).trans h2.1, (b.block _ (by simp)).trans h2.2.1, (b.block _ (by simp)).trans ?_, Below.then (alloc3_below w o1 o2 o3) b⟩
  have := heap_alloc_new ((w.alloc o1).alloc o2) o3
  simpa using this
theorem alloc4_below (w : World) (o1 o2 o3 o4 : Obj) : Below w.heap.size w ((((w.alloc o1).alloc o2).alloc o3).alloc o4) := (alloc3_below w o1 o2 o3).alloc (by simp; omega) o4
theorem alloc4_then {w w1 : World} {o1 o2 o3 o4 : Obj} (b : Below ((((w.alloc o1).alloc o2).alloc o3).alloc o4).heap.size ((((w.alloc o1).alloc o2).alloc o3).alloc o4) w1) : w1.heap[w.heap.size]? = some o1 ∧ w1.heap[w.heap.size + 1]? = some o2 ∧ w1.heap[w.heap.size + 1 + 1]? = some o3 ∧ Below w.heap.size w w1 := by
  have h := alloc3_then (w := w) (o1 := o1) (o2 := o2) (o3 := o3) (Below.then (alloc1_below _ o4) b)
  exact h
theorem cells4 {w : World} {b : Nat} {c0 c1 c2 c3 : Value} {t : TypeId} (h : w.heap[b]? = some (.cells #[c0, c1, c2, c3] t (0, 0))) : w.cell? ⟨b, 0, none⟩ = some c0 ∧ w.cell? ⟨b, 1, none⟩ = some c1 ∧ w.cell? ⟨b, 2, none⟩ = some c2 ∧ w.cell? ⟨b, 3, none⟩ = some c3 ∧ ∀ i, w.frozen? ⟨b, i, none⟩ = false := by
  simp only [World.cell?, World.frozen?, h]
  simp
theorem cells7 {w : World} {b : Nat} {c0 c1 c2 c3 c4 c5 c6 : Value} {t : TypeId} (h : w.heap[b]? = some (.cells #[c0, c1, c2, c3, c4, c5, c6] t (0, 0))) : w.cell? ⟨b, 0, none⟩ = some c0 ∧ w.cell? ⟨b, 1, none⟩ = some c1 ∧ w.cell? ⟨b, 2, none⟩ = some c2 ∧ w.cell? ⟨b, 3, none⟩ = some c3 ∧ w.cell? ⟨b, 4, none⟩ = some c4 ∧ w.cell? ⟨b, 5, none⟩ = some c5 ∧ w.cell? ⟨b, 6, none⟩ = some c6 ∧ ∀ i, w.frozen? ⟨b, i, none⟩ = false := by
  simp only [World.cell?, World.frozen?, h]
  simp
theorem put7 {w : World} {r : Nat} {c0 c1 c2 c3 c4 c5 c6 : Value} {t : TypeId} (h : w.heap[r]? = some (.cells #[c0, c1, c2, c3, c4, c5, c6] t (0, 0))) (x0 x1 x2 x3 x4 x5 x6 : Value) : (((((((w.setCell ⟨r, 0, none⟩ x0).setCell ⟨r, 1, none⟩ x1).setCell ⟨r, 2, none⟩ x2).setCell ⟨r, 3, none⟩ x3).setCell ⟨r, 4, none⟩ x4).setCell ⟨r, 5, none⟩ x5).setCell ⟨r, 6, none⟩ x6).heap[r]? = some (.cells #[x0, x1, x2, x3, x4, x5, x6] t (0, 0)) := by
  have h0 := heap_set h 0 x0
  rw [show (#[c0, c1, c2, c3, c4, c5, c6] : Array Value).setIfInBounds 0 x0 = #[x0, c1, c2, c3, c4, c5, c6] from rfl] at h0
  have h1 := heap_set h0 1 x1
  rw [show (#[x0, c1, c2, c3, c4, c5, c6] : Array Value).setIfInBounds 1 x1 = #[x0, x1, c2, c3, c4, c5, c6] from rfl] at h1
  have h2 := heap_set h1 2 x2
  rw [show (#[x0, x1, c2, c3, c4, c5, c6] : Array Value).setIfInBounds 2 x2 = #[x0, x1, x2, c3, c4, c5, c6] from rfl] at h2
  have h3 := heap_set h2 3 x3
  rw [show (#[x0, x1, x2, c3, c4, c5, c6] : Array Value).setIfInBounds 3 x3 = #[x0, x1, x2, x3, c4, c5, c6] from rfl] at h3
  have h4 := heap_set h3 4 x4
  rw [show (#[x0, x1, x2, x3, c4, c5, c6] : Array Value).setIfInBounds 4 x4 = #[x0, x1, x2, x3, x4, c5, c6] from rfl] at h4
  have h5 := heap_set h4 5 x5
  rw [show (#[x0, x1, x2, x3, x4, c5, c6] : Array Value).setIfInBounds 5 x5 = #[x0, x1, x2, x3, x4, x5, c6] from rfl] at h5
  have h6 := heap_set h5 6 x6
  rw [show (#[x0, x1, x2, x3, x4, x5, c6] : Array Value).setIfInBounds 6 x6 = #[x0, x1, x2, x3, x4, x5, x6] from rfl] at h6
  exact h6
theorem put7_other {w : World} {r g : Nat} {o : Obj} (h : w.heap[g]? = some o) (n : ¬ g = r) (x0 x1 x2 x3 x4 x5 x6 : Value) : (((((((w.setCell ⟨r, 0, none⟩ x0).setCell ⟨r, 1, none⟩ x1).setCell ⟨r, 2, none⟩ x2).setCell ⟨r, 3, none⟩ x3).setCell ⟨r, 4, none⟩ x4).setCell ⟨r, 5, none⟩ x5).setCell ⟨r, 6, none⟩ x6).heap[g]? = some o := by
  repeat (rw [Below.heap_setCell _ _ _ _ n])
  exact h
theorem put4_other {w : World} {r g i j k l : Nat} {o : Obj} (h : w.heap[g]? = some o) (n : ¬ g = r) (x0 x1 x2 x3 : Value) : ((((w.setCell ⟨r, i, none⟩ x0).setCell ⟨r, j, none⟩ x1).setCell ⟨r, k, none⟩ x2).setCell ⟨r, l, none⟩ x3).heap[g]? = some o := by
  repeat (rw [Below.heap_setCell _ _ _ _ n])
  exact h
theorem put4 {w : World} {g i j k l : Nat} {cs : Array Value} {t : TypeId} (h : w.heap[g]? = some (.cells cs t (0, 0))) (x0 x1 x2 x3 : Value) : ((((w.setCell ⟨g, i, none⟩ x0).setCell ⟨g, j, none⟩ x1).setCell ⟨g, k, none⟩ x2).setCell ⟨g, l, none⟩ x3).heap[g]? = some (.cells ((((cs.setIfInBounds i x0).setIfInBounds j x1).setIfInBounds k x2).setIfInBounds l x3) t (0, 0)) := heap_set (heap_set (heap_set (heap_set h i x0) j x1) k x2) l x3
theorem put4_below {w0 w : World} {r i j k l : Nat} (h : Below w0.heap.size w0 w) (hr : w0.heap.size ≤ r) (x0 x1 x2 x3 : Value) : Below w0.heap.size w0 ((((w.setCell ⟨r, i, none⟩ x0).setCell ⟨r, j, none⟩ x1).setCell ⟨r, k, none⟩ x2).setCell ⟨r, l, none⟩ x3) := ((((h.setCell hr x0).setCell hr x1).setCell hr x2).setCell hr x3)
theorem put7_below {w0 w : World} {r : Nat} (h : Below w0.heap.size w0 w) (hr : w0.heap.size ≤ r) (x0 x1 x2 x3 x4 x5 x6 : Value) : Below w0.heap.size w0 (((((((w.setCell ⟨r, 0, none⟩ x0).setCell ⟨r, 1, none⟩ x1).setCell ⟨r, 2, none⟩ x2).setCell ⟨r, 3, none⟩ x3).setCell ⟨r, 4, none⟩ x4).setCell ⟨r, 5, none⟩ x5).setCell ⟨r, 6, none⟩ x6) := (((((((h.setCell hr x0).setCell hr x1).setCell hr x2).setCell hr x3).setCell hr x4).setCell hr x5).setCell hr x6)
theorem fieldM (w : World) (a : Option Addr) (n cap : Nat) (b : Bool) (i x y z u : Int) : (Instr.field 28 (.agg #[.slice a n cap, .bool b, .int .i64 i, .int .u32 x, .int .u32 y, .int .u32 z, .int .u32 u]) 0).run Try.prog w = .ok (.slice a n cap) w := by kernel_rfl
theorem fieldR (w : World) (a : Option Addr) (n cap : Nat) (b : Bool) (i x y z u : Int) : (Instr.field 26 (.agg #[.slice a n cap, .bool b, .int .i64 i, .int .u32 x, .int .u32 y, .int .u32 z, .int .u32 u]) 0).run Try.prog w = .ok (.slice a n cap) w := by kernel_rfl
theorem put7_away {w : World} {r g : Nat} (n : ¬ g = r) (x0 x1 x2 x3 x4 x5 x6 : Value) : (((((((w.setCell ⟨r, 0, none⟩ x0).setCell ⟨r, 1, none⟩ x1).setCell ⟨r, 2, none⟩ x2).setCell ⟨r, 3, none⟩ x3).setCell ⟨r, 4, none⟩ x4).setCell ⟨r, 5, none⟩ x5).setCell ⟨r, 6, none⟩ x6).heap[g]? = w.heap[g]? := by
  repeat (rw [Below.heap_setCell _ _ _ _ n])
theorem Vat.same {w w' : World} {b o : Nat} {v : Md.V} (h : Vat w b o v) (e : w'.heap[b]? = w.heap[b]?) : Vat w' b o v :=
  ⟨(World.cell?_of_block (a := ⟨b, o, none⟩) e).trans h.c0, (World.cell?_of_block (a := ⟨b, o + 1, none⟩) e).trans h.c1, (World.cell?_of_block (a := ⟨b, o + 2, none⟩) e).trans h.c2, (World.cell?_of_block (a := ⟨b, o + 3, none⟩) e).trans h.c3⟩
theorem Lv.same {w w' : World} {a : Option Addr} {n cap : Nat} {l : List Md.V} (h : Lv w a n cap l) (e : ∀ ad, a = some ad → w'.heap[ad.block]? = w.heap[ad.block]?) : Lv w' a n cap l := by
  refine ⟨h.len, h.le, h.is.elim .inl fun ⟨ad, he, hc⟩ => .inr ⟨ad, he, fun i hi => ?_⟩⟩
  obtain ⟨b, off, rfl, hv⟩ := hc i hi
  exact ⟨b, off, rfl, hv.same (e _ he)⟩
theorem underM : Try.prog.underlying 28 = some (.struct (Try.prog.fieldsOf 28)) := by kernel_rfl
theorem sizeM : (Try.prog.info? 28).map (·.size) = some 7 := by kernel_rfl
theorem retM {fn : Func} {p : Tmp} (h : fn.results = #[.cell p 28]) (tmps : Array Value) (w : World) (g : Nat) (cs : Array Value) (hp : tmps.getD p undef = .pointer (some ⟨g, 0, none⟩)) (hg : w.heap[g]? = some (.cells cs 28 (0, 0))) (hs : cs.size = 7) :
    (results fn tmps).run Try.prog w = .ok (.agg cs) w := results_cell_row h tmps w g _ cs _ _ hp hg underM rfl (by rw [sizeM, hs])
theorem retM2 {fn : Func} {p u : Tmp} (h : fn.results = #[.cell p 28, .tmp u]) (tmps : Array Value) (w : World) (g : Nat) (cs : Array Value) (v : Value) (hp : tmps.getD p undef = .pointer (some ⟨g, 0, none⟩)) (hv : tmps.getD u undef = v) (hg : w.heap[g]? = some (.cells cs 28 (0, 0))) (hs : cs.size = 7) :
    (results fn tmps).run Try.prog w = .ok (.tuple #[.agg cs, v]) w := by
  have hp' : tmps[p]?.getD undef = .pointer (some ⟨g, 0, none⟩) := by simpa using hp
  have hv' : tmps[u]?.getD undef = v := by simpa using hv
  have hr := run_loadVar_row (P := Try.prog) w g 28 28 cs (0, 0) _ hg underM rfl (by rw [sizeM, hs])
  simp [results, h, hp', hv', asAddr, hr]
theorem underR : Try.prog.underlying 26 = some (.struct (Try.prog.fieldsOf 26)) := by kernel_rfl
theorem sizeR : (Try.prog.info? 26).map (·.size) = some 7 := by kernel_rfl
theorem retR {fn : Func} {p : Tmp} (h : fn.results = #[.cell p 26]) (tmps : Array Value) (w : World) (g : Nat) (cs : Array Value) (hp : tmps.getD p undef = .pointer (some ⟨g, 0, none⟩)) (hg : w.heap[g]? = some (.cells cs 26 (0, 0))) (hs : cs.size = 7) :
    (results fn tmps).run Try.prog w = .ok (.agg cs) w := results_cell_row h tmps w g _ cs _ _ hp hg underR rfl (by rw [sizeR, hs])
theorem below_al {w0 w : World} (h : Below w0.heap.size w0 w) (o : Obj) : Below w0.heap.size w0 (w.alloc o) := h.alloc h.size o
end Go.Proofs.Ytlfabajceflpdaa

/- Contracts of package walk: the leaf. -/
import Derived.Test.YtejgaldeamjplaaTab
import Derived.Laws.Rows
namespace Go.Proofs.Ytejgaldeamjplaa
open Go.RowKit
set_option linter.unusedVariables false
theorem alloc1_below (w : World) (o1 : Obj) : Below w.heap.size w (w.alloc o1) := (Below.refl _ w).alloc (Nat.le_refl _) o1
theorem alloc2_below (w : World) (o1 o2 : Obj) : Below w.heap.size w ((w.alloc o1).alloc o2) := ((Below.refl _ w).alloc (Nat.le_refl _) o1).alloc (by simp) o2
theorem alloc1_then {w w1 : World} {o1 : Obj} (b : Below (w.alloc o1).heap.size (w.alloc o1) w1) : w1.heap[w.heap.size]? = some o1 ∧ Below w.heap.size w w1 :=
  ⟨(b.block _ (by simp)).trans (heap_alloc_new w o1), Below.then ((Below.refl _ w).alloc (Nat.le_refl _) o1) b⟩
theorem alloc2_then {w w1 : World} {o1 o2 : Obj} (b : Below ((w.alloc o1).alloc o2).heap.size ((w.alloc o1).alloc o2) w1) : w1.heap[w.heap.size]? = some o1 ∧ w1.heap[w.heap.size + 1]? = some o2 ∧ Below w.heap.size w w1 := by
  refine ⟨(b.block _ (by simp; omega)).trans ?_, (b.block _ (by simp)).trans ?_, Below.then (alloc2_below w o1 o2) b⟩
  · have := (alloc1_below (w.alloc o1) o2).block w.heap.size (by simp)
    exact this.trans (heap_alloc_new w o1)
  · have := heap_alloc_new (w.alloc o1) o2
    simpa using this
theorem cells6 {w : World} {b : Nat} {c0 c1 c2 c3 c4 c5 : Value} {t : TypeId} (h : w.heap[b]? = some (.cells #[c0, c1, c2, c3, c4, c5] t (0, 0))) : w.cell? ⟨b, 0, none⟩ = some c0 ∧ w.cell? ⟨b, 1, none⟩ = some c1 ∧ w.cell? ⟨b, 2, none⟩ = some c2 ∧ w.cell? ⟨b, 3, none⟩ = some c3 ∧ w.cell? ⟨b, 4, none⟩ = some c4 ∧ w.cell? ⟨b, 5, none⟩ = some c5 ∧ ∀ i, w.frozen? ⟨b, i, none⟩ = false := by
  simp only [World.cell?, World.frozen?, h]
  simp
theorem cells3 {w : World} {b : Nat} {c0 c1 c2 : Value} {t : TypeId} (h : w.heap[b]? = some (.cells #[c0, c1, c2] t (0, 0))) : w.cell? ⟨b, 0, none⟩ = some c0 ∧ w.cell? ⟨b, 1, none⟩ = some c1 ∧ w.cell? ⟨b, 2, none⟩ = some c2 ∧ ∀ i, w.frozen? ⟨b, i, none⟩ = false := by
  simp only [World.cell?, World.frozen?, h]
  simp
theorem frz2 {w : World} {b : Nat} (hb : b < w.heap.size) (o1 o2 : Obj) (i : Nat) : ((w.alloc o1).alloc o2).frozen? ⟨b, i, none⟩ = w.frozen? ⟨b, i, none⟩ :=
  World.frozen?_of_block (a := ⟨b, i, none⟩) ((Below.heap_alloc _ o2 b (by simp; omega)).trans (Below.heap_alloc _ o1 b hb))
theorem al3 {w0 w : World} (h : Below w0.heap.size w0 w) (o1 o2 o3 : Obj) : Below w0.heap.size w0 (((w.alloc o1).alloc o2).alloc o3) := Walk.below_al (Walk.below_al (Walk.below_al h o1) o2) o3
theorem field_small (w a : Int) (m : Nat) (h : m ≤ 32) : 0 ≤ Bt.field w a m ∧ Bt.field w a m < 2 ^ m := by
  refine ⟨(Bt.field_rng w a m).1, Bt.small_of_bits (Bt.field_rng w a m).1 m fun j hj => ?_⟩
  by_cases h32 : j < 32
  · rw [Bt.tb_field (by omega) h32, decide_eq_false (by omega), Bool.false_and]
  · exact Bt.tb_high (Bt.field_rng w a m).2 (by omega)
theorem retE {fn : Func} {p : Tmp} (h : fn.results = #[.cell p 67]) (tmps : Array Value) (w : World) (g : Nat) (cs : Array Value) (hp : tmps.getD p undef = .pointer (some ⟨g, 0, none⟩)) (hg : w.heap[g]? = some (.cells cs 67 (0, 0))) (hs : cs.size = 3) :
    (results fn tmps).run Try.prog w = .ok (.agg cs) w := results_cell_row h tmps w g _ cs _ _ hp hg (show Try.prog.underlying 67 = some (.struct (Try.prog.fieldsOf 67)) by kernel_rfl) rfl (by rw [show (Try.prog.info? 67).map (·.size) = some 3 by kernel_rfl, hs])
theorem heap_set {w : World} {a : Nat} {cs : Array Value} {t : TypeId} (h : w.heap[a]? = some (.cells cs t (0, 0))) (j : Nat) (u : Value) : (w.setCell ⟨a, j, none⟩ u).heap[a]? = some (.cells (cs.setIfInBounds j u) t (0, 0)) := by
  simp only [World.setCell, Array.getElem?_modify, if_true, h, Option.map_some]
  rfl
theorem put3 {w : World} {r : Nat} {c0 c1 c2 : Value} {t : TypeId} (h : w.heap[r]? = some (.cells #[c0, c1, c2] t (0, 0))) (x0 x1 x2 : Value) : (((w.setCell ⟨r, 0, none⟩ x0).setCell ⟨r, 1, none⟩ x1).setCell ⟨r, 2, none⟩ x2).heap[r]? = some (.cells #[x0, x1, x2] t (0, 0)) := heap_set (heap_set (heap_set h 0 x0) 1 x1) 2 x2
theorem put3_below {w0 w : World} {r : Nat} (h : Below w0.heap.size w0 w) (hr : w0.heap.size ≤ r) (x0 x1 x2 : Value) : Below w0.heap.size w0 (((w.setCell ⟨r, 0, none⟩ x0).setCell ⟨r, 1, none⟩ x1).setCell ⟨r, 2, none⟩ x2) := ((h.setCell hr x0).setCell hr x1).setCell hr x2
theorem al2_heap {w : World} {b : Nat} {o : Obj} (h : w.heap[b]? = some o) (o1 o2 : Obj) : ((w.alloc o1).alloc o2).heap[b]? = some o := by
  have := (Array.getElem?_eq_some_iff.1 h).1
  exact (Below.heap_alloc _ o2 b (by simp; omega)).trans ((Below.heap_alloc _ o1 b this).trans h)
namespace Walk
section
variable {w0 w w' : World} {g r : Nat} {base : Int} {ad : Option Addr} {kap : Nat} {zs : List Int}
set_option maxHeartbeats 400000 in
set_option maxRecDepth 100000 in
theorem leaf_e1 (h : RamAt w0 w g r base ad kap zs) (a : Wk.Ask) (ha : a.Ok) {p : Bool} (q : Hid (Wk.entry base zs (Bt.field a.satp 0 22) a.va 1 = .error p)) :
    Calls Try.prog 27 #[tabv g a] w fun e w' => e = gives a.access p ∧ Below w.heap.size w w' := by
  obtain ⟨f0, f1⟩ := field_small a.satp 0 22 (by decide)
  change Bt.field a.satp 0 22 < 4194304 at f1
  obtain ⟨f, hf⟩ : ∃ f, Hid (Bt.field a.satp 0 22 = f) := ⟨_, rfl⟩
  have hE1 : ∀ o1 o2, Calls Try.prog 39 #[tabv g a, .int .u32 f, .int .i64 1] ((w.alloc o1).alloc o2) fun e w' => e = gives a.access p ∧ Below ((w.alloc o1).alloc o2).heap.size ((w.alloc o1).alloc o2) w' := fun o1 o2 => hf.out ▸ entry_1_err (h.then (alloc2_below w o1 o2)) a ha f0 f1 q
  clear f0 f1 q
  go_enter Try.func27, Try.ntmps27
  go_wp2_with (go_at_call 33; refine (Bits.field_c _ _ _ _ ha.satp0 ha.satp1).mono ?_; rintro e w' ⟨rfl, rfl⟩; rw [hf.out])
  refine wp_loop_rounds 2 ?_
  rw [rounds_succ]
  go_wp2_with (go_at_call 39; refine (hE1 _ _).mono ?_; rintro e w1 ⟨rfl, b1⟩; clear hE1; obtain ⟨_, _, b2⟩ := alloc2_then b1; clear b1)
  exact ⟨rfl, rfl, b2⟩
set_option maxHeartbeats 400000 in
set_option maxRecDepth 100000 in
theorem leaf_1 (h : RamAt w0 w g r base ad kap zs) (a : Wk.Ask) (ha : a.Ok) {i : Nat} (q : Hid (Wk.entry base zs (Bt.field a.satp 0 22) a.va 1 = .ok i)) (hl : Wk.isLeaf (zs.getD i 0) = true) :
    Calls Try.prog 27 #[tabv g a] w fun e w' => e = .returned (.agg #[.int .u32 (base + 4 * i), .int .u32 (zs.getD i 0), .bool true]) ∧ Below w.heap.size w w' := by
  obtain ⟨f0, f1⟩ := field_small a.satp 0 22 (by decide)
  change Bt.field a.satp 0 22 < 4194304 at f1
  obtain ⟨hi, _, _, hp⟩ := Wk.entry_err q.out
  have hx := Lib.hid (Wk.place_lt hp).2.1
  obtain ⟨z0, z1⟩ := h.z0 i
  obtain ⟨x, HX⟩ : ∃ x, Hid (zs.getD i 0 = x) := ⟨_, rfl⟩
  have hE1 : ∀ o1 o2, Calls Try.prog 39 #[tabv g a, .int .u32 (Bt.field a.satp 0 22), .int .i64 1] ((w.alloc o1).alloc o2) fun e w' => e = .returned (.agg #[.int .u32 (base + 4 * i), .int .u32 x, .bool true]) ∧ Below ((w.alloc o1).alloc o2).heap.size ((w.alloc o1).alloc o2) w' := fun o1 o2 => HX.out ▸ hx.out ▸ entry_1 (h.then (alloc2_below w o1 o2)) a ha f0 f1 q
  obtain ⟨f, hf⟩ : ∃ f, Hid (Bt.field a.satp 0 22 = f) := ⟨_, rfl⟩
  rw [hf.out] at hE1
  rw [HX.out] at hl z0 z1 ⊢
  have e10 := m10 z0 z1
  rw [hl] at e10
  clear f0 f1 q hl hp
  go_enter Try.func27, Try.ntmps27
  go_wp2_with (go_at_call 33; refine (Bits.field_c _ _ _ _ ha.satp0 ha.satp1).mono ?_; rintro e w' ⟨rfl, rfl⟩; rw [hf.out])
  refine wp_loop_rounds 2 ?_
  rw [rounds_succ]
  go_wp2_with (first | (go_at_call 39; refine (hE1 _ _).mono ?_; rintro e w1 ⟨rfl, b1⟩; clear hE1; obtain ⟨e0, e1, b2⟩ := alloc2_then b1; clear b1; obtain ⟨x0, x1, x2, x3, x4, x5, _⟩ := cells6 e0; obtain ⟨y0, y1, y2, y3⟩ := cells3 e1; have lt1 := (Array.getElem?_eq_some_iff.1 e1).1; have E1 := Lib.hid e1; clear e0 e1; have X0 := fun o1 o2 o3 => Lib.cell?_alloc_some o3 (Lib.cell?_alloc_some o2 (Lib.cell?_alloc_some o1 x0)); have X1 := fun o1 o2 o3 => Lib.cell?_alloc_some o3 (Lib.cell?_alloc_some o2 (Lib.cell?_alloc_some o1 x1)); have X2 := fun o1 o2 o3 => Lib.cell?_alloc_some o3 (Lib.cell?_alloc_some o2 (Lib.cell?_alloc_some o1 x2)); have X3 := fun o1 o2 o3 => Lib.cell?_alloc_some o3 (Lib.cell?_alloc_some o2 (Lib.cell?_alloc_some o1 x3)); have X4 := fun o1 o2 o3 => Lib.cell?_alloc_some o3 (Lib.cell?_alloc_some o2 (Lib.cell?_alloc_some o1 x4)); have X5 := fun o1 o2 o3 => Lib.cell?_alloc_some o3 (Lib.cell?_alloc_some o2 (Lib.cell?_alloc_some o1 x5)); have Y0 := fun o1 o2 => Lib.cell?_alloc_some o2 (Lib.cell?_alloc_some o1 y0); have Y1 := fun o1 o2 => Lib.cell?_alloc_some o2 (Lib.cell?_alloc_some o1 y1); have Y2 := fun o1 o2 => Lib.cell?_alloc_some o2 (Lib.cell?_alloc_some o1 y2); have Y3 : ∀ o1 o2 i, ((w1.alloc o1).alloc o2).frozen? ⟨w.heap.size + 1, i, none⟩ = false := (fun o1 o2 i => (frz2 lt1 o1 o2 i).trans (y3 i))) | (go_at_call 40; refine (has_c _ _ _ _ _).mono ?_; rintro e w' ⟨rfl, rfl⟩) | (refine bodyPost_ret (retE rfl _ _ _ _ rfl (put3 (al2_heap E1.out _ _) _ _ _) rfl) rfl ⟨rfl, put3_below (below_al (below_al b2 _) _) (by omega) _ _ _⟩))
end
end Walk
end Go.Proofs.Ytejgaldeamjplaa

/- The parts: Rdl Rdw CfOk Rdw2 Rdw3. -/
import Derived.Test.YtfghlfolejpjjaaRE
import Derived.Deep.MidRow
import Derived.Deep.Cut
import Derived.Test.YtfghlfolejpjjaaCf
import Derived.StillTailTactics
import Derived.Deep.RegionHeld3
import Derived.Test.YtfghlfolejpjjaaDr2
/- The reference's driver as a value of 78 cells: a flash, and its ticks. -/
namespace Go.Proofs.Ytfghlfolejpjjaa
open Go.RowKit
set_option linter.unusedVariables false
namespace Rdl
open Rfl
def dcells (bw kw be ke : Nat) (F : RF) (t : Int) : List Value := rcells bw kw be ke F ++ [.int .i64 t]
def da (bw kw be ke : Nat) (F : RF) (t : Int) : Array Value := (dcells bw kw be ke F t).toArray
theorem dcells_len (bw kw be ke : Nat) (F : RF) (t : Int) : (dcells bw kw be ke F t).length = 78 := by simp [dcells, rcells_len]
theorem da_size (bw kw be ke : Nat) (F : RF) (t : Int) : (da bw kw be ke F t).size = 78 := by simp [da, dcells_len]
theorem dhead (bw kw be ke : Nat) (F : RF) (t : Int) {i : Nat} (h : i < 77) : (dcells bw kw be ke F t)[i]? = (rcells bw kw be ke F)[i]? := by
  unfold dcells
  rw [List.getElem?_append_left (by rw [rcells_len]; exact h)]
theorem dtick (bw kw be ke : Nat) (F : RF) (t : Int) : (dcells bw kw be ke F t)[77]? = some (.int .i64 t) := by
  unfold dcells
  rw [List.getElem?_append_right (by rw [rcells_len]; exact Nat.le_refl _), rcells_len]
  rfl
/-- Cells laid one behind the other into a row. -/
def over : Array Value → Nat → List Value → Array Value
  | C, _, [] => C
  | C, o, v :: r => over (C.setIfInBounds o v) (o + 1) r
theorem over_list : ∀ (vs pre mid suf : List Value), mid.length = vs.length → over (pre ++ mid ++ suf).toArray pre.length vs = (pre ++ vs ++ suf).toArray
  | [], pre, mid, suf, h => by
    have : mid = [] := List.length_eq_zero_iff.1 h
    subst this
    rfl
  | v :: r, pre, mid, suf, h => by
    obtain ⟨x, m, rfl⟩ : ∃ x m, mid = x :: m := by
      cases mid with
      | nil => simp at h
      | cons x m => exact ⟨x, m, rfl⟩
    unfold over
    have e : ((pre ++ x :: m ++ suf).toArray).setIfInBounds pre.length v = ((pre ++ [v]) ++ m ++ suf).toArray := by
      simp [List.set_append_right]
    rw [e]
    have := over_list r (pre ++ [v]) m suf (by simpa using h)
    rw [show (pre ++ [v]).length = pre.length + 1 by simp] at this
    rw [this]
    simp
theorem heap_setCells {t : TypeId} (b : Nat) : ∀ (vs : List Value) (o : Nat) (w : World) (C : Array Value), w.heap[b]? = some (.cells C t (0, 0)) → (w.setCells b o vs).heap[b]? = some (.cells (over C o vs) t (0, 0))
  | [], o, w, C, h => h
  | v :: r, o, w, C, h => by
    rw [World.setCells]
    exact heap_setCells b r (o + 1) _ _ (heap_set h o v)
theorem keep_setCells (b : Nat) : ∀ (vs : List Value) (o : Nat) (w W : World), Keep (fun k => k = b) w W → Keep (fun k => k = b) w (W.setCells b o vs)
  | [], o, w, W, h => h
  | v :: r, o, w, W, h => by
    rw [World.setCells]
    exact keep_setCells b r (o + 1) w _ (h.setCell (p := ⟨b, o, none⟩) (.inl rfl) v)
theorem over_da (bw kw be ke bw' kw' be' ke' : Nat) (F F' : RF) (t : Int) : over (da bw kw be ke F t) 0 (rcells bw' kw' be' ke' F') = da bw' kw' be' ke' F' t := by
  have := over_list (rcells bw' kw' be' ke' F') [] (rcells bw kw be ke F) [.int .i64 t] (by rw [rcells_len, rcells_len])
  simpa [da, dcells] using this
/-- The driver's box. -/
def Dbox (w : World) (b bw kw be ke : Nat) (F : RF) (t : Int) : Prop := w.heap[b]? = some (.cells (da bw kw be ke F t) 64 (0, 0))
section
variable {w w' : World} {b bw kw be ke : Nat} {F : RF} {t : Int}
theorem Dbox.cell (h : Dbox w b bw kw be ke F t) (i : Nat) : w.cell? ⟨b, i, none⟩ = (dcells bw kw be ke F t)[i]? := by
  rw [cell_of_row w b i _ _ _ h]
  simp [da]
theorem Dbox.tick (h : Dbox w b bw kw be ke F t) : w.cell? ⟨b, 77, none⟩ = some (.int .i64 t) := (h.cell 77).trans (dtick _ _ _ _ _ _)
theorem Dbox.free (h : Dbox w b bw kw be ke F t) (i : Nat) : w.frozen? ⟨b, i, none⟩ = false := frozen_of_row _ _ _ _ _ h
theorem Dbox.range (h : Dbox w b bw kw be ke F t) : w.rangeAt b 0 (rcells bw kw be ke F) := fun j v hj => by
  have hl := (List.getElem?_eq_some_iff.1 hj).1
  rw [rcells_len] at hl
  rw [Nat.zero_add, h.cell, dhead _ _ _ _ _ _ hl]
  exact hj
theorem Dbox.there (h : Dbox w b bw kw be ke F t) : w.there b 0 77 := fun j hj => by
  rw [Nat.zero_add, h.cell, dhead _ _ _ _ _ _ hj]
  refine ⟨?_, h.free _⟩
  rw [List.getElem?_eq_getElem (by rw [rcells_len]; exact hj)]
  rfl
theorem Dbox.lt (h : Dbox w b bw kw be ke F t) : b < w.heap.size := (Array.getElem?_eq_some_iff.1 h).1
theorem Dbox.of (h : Dbox w b bw kw be ke F t) (e : w'.heap[b]? = w.heap[b]?) : Dbox w' b bw kw be ke F t := e.trans h
theorem Dbox.below (h : Dbox w b bw kw be ke F t) (hb : Below w.heap.size w w') : Dbox w' b bw kw be ke F t := h.of (hb.block _ h.lt)
theorem Dbox.setTick (h : Dbox w b bw kw be ke F t) (x : Int) : Dbox (w.setCell ⟨b, 77, none⟩ (.int .i64 x)) b bw kw be ke F x := by
  refine (heap_set h 77 _).trans ?_
  have : (da bw kw be ke F t).setIfInBounds 77 (.int .i64 x) = da bw kw be ke F x := by
    have e := over_list [.int .i64 x] (rcells bw kw be ke F) [.int .i64 t] [] rfl
    rw [rcells_len] at e
    simpa [over, da, dcells] using e
  rw [this]
end
theorem underD : Try.prog.underlying 64 = some (.struct (Try.prog.fieldsOf 64)) := by kernel_rfl
theorem sizeD : (Try.prog.info? 64).map (·.size) = some 78 := by kernel_rfl
theorem sizeDa (bw kw be ke : Nat) (F : RF) (t : Int) : (Try.prog.info? 64).map (·.size) = some (da bw kw be ke F t).size := by rw [da_size]; exact sizeD
theorem da_one (bw kw be ke : Nat) (F : RF) (t : Int) : (da bw kw be ke F t).all (·.oneCell') = true := by
  unfold da dcells rcells
  simp [Value.oneCell']
theorem zero78 : (Try.zeroCells64).size = 78 := by kernel_rfl
/-- The whole driver out of its box. -/
theorem load_d {ops : Array Oper} {rest : List Oper} {o : Oper} {a : Act} {w : World} {Q : Exit → Act → World → Prop} {bw kw be ke g : Nat} {F : RF} {t : Int} (hgd : o.guard = none) (x : Operand) (ho : o.op = .load 64 x) (hx : a.eval x = .pointer (some ⟨g, 0, none⟩)) (hb : Dbox w g bw kw be ke F t)
    (h : wpList Try.prog ops Q rest (a.put o.dst (.agg (da bw kw be ke F t))) w) : wpList Try.prog ops Q (o :: rest) a w :=
  wpList_load_row hgd _ x ho g hx _ _ _ _ hb underD rfl (sizeDa _ _ _ _ _ _) h
/-- A whole driver into a box. -/
theorem store_d {ops : Array Oper} {rest : List Oper} {o : Oper} {a : Act} {w : World} {Q : Exit → Act → World → Prop} {bw kw be ke g : Nat} {F : RF} {t : Int} {Z : Array Value} (hgd : o.guard = none) (x y : Operand) (ho : o.op = .store 64 x y) (hx : a.eval x = .pointer (some ⟨g, 0, none⟩)) (hy : a.eval y = .agg (da bw kw be ke F t)) (hb : w.heap[g]? = some (.cells Z 64 (0, 0))) (hz : Z.size = 78)
    (h : ∀ w', Dbox w' g bw kw be ke F t → Keep (fun k => k = g) w w' → w'.heap.size = w.heap.size → wpList Try.prog ops Q rest (a.put o.dst undef) w') : wpList Try.prog ops Q (o :: rest) a w := by
  refine wpList_store_row hgd _ x y ho g _ hx hy _ _ hb (sizeDa _ _ _ _ _ _) (by rw [da_size, hz]) (da_one _ _ _ _ _ _) (h _ (setRow_heap w g _ _ _ _ hb) ⟨rfl, rfl, rfl, by simp, fun k hk hn => setRow_other _ _ _ _ hn⟩ (by simp))
/-- Its flash out of its box. -/
theorem load_df {ops : Array Oper} {rest : List Oper} {o : Oper} {a : Act} {w : World} {Q : Exit → Act → World → Prop} {bw kw be ke g : Nat} {F : RF} {t : Int} (hgd : o.guard = none) (x : Operand) (ho : o.op = .load 62 x) (hx : a.eval x = .pointer (some ⟨g, 0, none⟩)) (hb : Dbox w g bw kw be ke F t)
    (h : wpList Try.prog ops Q rest (a.put o.dst (.agg (fa bw kw be ke F))) w) : wpList Try.prog ops Q (o :: rest) a w :=
  wpList_load_mid hgd _ x ho g 0 hx (rcells bw kw be ke F) _ hb.range underF rfl (by rw [rcells_len]; exact sizeF) h
theorem heapSize_setCells (b : Nat) : ∀ (vs : List Value) (o : Nat) (w : World), (w.setCells b o vs).heap.size = w.heap.size
  | [], o, w => rfl
  | v :: r, o, w => by
    rw [World.setCells, heapSize_setCells b r (o + 1) _]
    simp [World.setCell]
/-- A flash into its box. -/
theorem store_df {ops : Array Oper} {rest : List Oper} {o : Oper} {a : Act} {w : World} {Q : Exit → Act → World → Prop} {bw kw be ke bw' kw' be' ke' g : Nat} {F F' : RF} {t : Int} (hgd : o.guard = none) (x y : Operand) (ho : o.op = .store 62 x y) (hx : a.eval x = .pointer (some ⟨g, 0, none⟩)) (hy : a.eval y = .agg (fa bw' kw' be' ke' F')) (hb : Dbox w g bw kw be ke F t)
    (h : ∀ w', Dbox w' g bw' kw' be' ke' F' t → Keep (fun k => k = g) w w' → w'.heap.size = w.heap.size → wpList Try.prog ops Q rest (a.put o.dst undef) w') : wpList Try.prog ops Q (o :: rest) a w := by
  refine wpList_store_mid hgd _ x y ho g 0 _ hx hy (by rw [fa_size]; exact hb.there) (by rw [fa_size]; exact sizeF) (fa_one _ _ _ _ _) (h _ ?_ (keep_setCells g _ 0 w w (Keep.refl _ w)) (heapSize_setCells g _ 0 w))
  have := heap_setCells g (fa bw' kw' be' ke' F').toList 0 w _ hb
  have e : (fa bw' kw' be' ke' F').toList = rcells bw' kw' be' ke' F' := rfl
  rw [e, over_da] at this
  exact this
theorem retD {fn : Func} {p : Tmp} (h : fn.results = #[.cell p 64]) (tmps : Array Value) (w : World) (g : Nat) {bw kw be ke : Nat} {F : RF} {t : Int} (hp : tmps.getD p undef = .pointer (some ⟨g, 0, none⟩)) (hg : Dbox w g bw kw be ke F t) :
    (results fn tmps).run Try.prog w = .ok (.agg (da bw kw be ke F t)) w := results_cell_row h tmps w g _ _ _ _ hp hg underD rfl (sizeDa _ _ _ _ _ _)
theorem retD2 {fn : Func} {p u : Tmp} (h : fn.results = #[.cell p 64, .tmp u]) (tmps : Array Value) (w : World) (g : Nat) (v : Value) {bw kw be ke : Nat} {F : RF} {t : Int} (hp : tmps.getD p undef = .pointer (some ⟨g, 0, none⟩)) (hv : tmps.getD u undef = v) (hg : Dbox w g bw kw be ke F t) :
    (results fn tmps).run Try.prog w = .ok (.tuple #[.agg (da bw kw be ke F t), v]) w := by
  have hp' : tmps[p]?.getD undef = .pointer (some ⟨g, 0, none⟩) := by simpa using hp
  have hv' : tmps[u]?.getD undef = v := by simpa using hv
  have hr := run_loadVar_row (P := Try.prog) w g 64 64 _ (0, 0) _ hg underD rfl (sizeDa bw kw be ke F t)
  simp [results, h, hp', hv', asAddr, hr]
end Rdl
end Go.Proofs.Ytfghlfolejpjjaa

/- The reference's driver: write. -/
namespace Go.Proofs.Ytfghlfolejpjjaa
open Go.RowKit
set_option linter.unusedVariables false
attribute [local go_sem] max2_int min2_int max_two min_two
namespace Cf
/-- Values that are written one behind the other, up to the first error: the first k. -/
def wrs (s : Fl) (at_ : Int) (zs : List Int) : Nat → Int × Fl
  | 0 => (0, s)
  | k + 1 => if (wrs s at_ zs k).1 = 0 then write (wrs s at_ zs k).2 at_ (zs.getD k 0) else wrs s at_ zs k
theorem wrs_one (s : Fl) (at_ a : Int) : wrs s at_ [a] 1 = write s at_ a := rfl
theorem wrs_two (s : Fl) (at_ a b : Int) : wrs s at_ [a, b] 2 = if (write s at_ a).1 = 0 then write (write s at_ a).2 at_ b else write s at_ a := rfl
theorem wrs_stop {s : Fl} {at_ : Int} {zs : List Int} {k : Nat} (h : ¬ (wrs s at_ zs k).1 = 0) : ∀ m, wrs s at_ zs (k + m) = wrs s at_ zs k
  | 0 => rfl
  | m + 1 => by
    have := wrs_stop h m
    rw [show k + (m + 1) = (k + m) + 1 by omega, wrs, this, if_neg h]
end Cf
namespace Rdl
open Rfl Rcfi
/-- The box of the argument, and that of the answer. -/
structure TwoD (w W : World) (bw kw be ke : Nat) (F : RF) (t : Int) (Z : Array Value) : Prop where
  box : Dbox W w.heap.size bw kw be ke F t
  res : W.heap[w.heap.size + 1]? = some (.cells Z 64 (0, 0))
  below : Below w.heap.size w W
theorem TwoD.start (w : World) (bw kw be ke : Nat) (F : RF) (t : Int) (Z : Array Value) : TwoD w ((w.alloc (.cells (da bw kw be ke F t) 64)).alloc (.cells Z 64)) bw kw be ke F t Z := by
  obtain ⟨e0, e1, b⟩ := alloc2_then (Below.refl _ ((w.alloc (.cells (da bw kw be ke F t) 64)).alloc (.cells Z 64)))
  exact ⟨e0, e1, b⟩
theorem TwoD.then {w W W' : World} {bw kw be ke : Nat} {F : RF} {t : Int} {Z : Array Value} (T : TwoD w W bw kw be ke F t Z) (b : Below W.heap.size W W') : TwoD w W' bw kw be ke F t Z :=
  ⟨T.box.below b, (b.block _ (Array.getElem?_eq_some_iff.1 T.res).1).trans T.res, Below.then T.below b⟩
/-- A store into the box of the argument. -/
theorem TwoD.row {w W W' : World} {bw kw be ke bw' kw' be' ke' : Nat} {F F' : RF} {t t' : Int} {Z : Array Value} (T : TwoD w W bw kw be ke F t Z) (hb : Dbox W' w.heap.size bw' kw' be' ke' F' t') (hk : Keep (fun k => k = w.heap.size) W W') : TwoD w W' bw' kw' be' ke' F' t' Z :=
  ⟨hb, (hk.block _ (Array.getElem?_eq_some_iff.1 T.res).1 (by omega)).trans T.res, below_row T.below hk (Nat.le_refl _)⟩
/-- A store into a block that is neither. -/
theorem TwoD.away {w W W' : World} {bw kw be ke r : Nat} {F : RF} {t : Int} {Z : Array Value} (T : TwoD w W bw kw be ke F t Z) (hr : w.heap.size + 1 < r) (hk : Keep (fun k => k = r) W W') : TwoD w W' bw kw be ke F t Z :=
  ⟨T.box.of (hk.block _ T.box.lt (by omega)), (hk.block _ (Array.getElem?_eq_some_iff.1 T.res).1 (by omega)).trans T.res, below_row T.below hk (by omega)⟩
/-- The flash out of the driver's box, as one operation of a region that draws. -/
theorem exec_df {o : Oper} {a : Act} {w : World} {g bw kw be ke : Nat} {F : RF} {t : Int} (x : Operand) (ho : o.op = .load 62 x) (hx : a.eval x = .pointer (some ⟨g, 0, none⟩)) (hb : Dbox w g bw kw be ke F t) : (execOp a.eval o).run Try.prog w = .ok (.value (.agg (fa bw kw be ke F))) w := by
  unfold execOp
  simp only [ho, hx, Instr.loadAt, Instr.sureAddr, Sem.run_bind, Sem.run_pure, Result.andThen_ok, run_loadVar_mid w g 0 _ (rcells bw kw be ke F) _ hb.range underF rfl (by rw [rcells_len]; exact sizeF)]
  rfl
/-- A whole flash into a box, as one operation of a region that draws. -/
theorem wp_store_f {o : Oper} {a : Act} {w : World} {K : Act → World → Prop} {Q : Exit → Act → World → Prop} {bw kw be ke g : Nat} {F : RF} {Z : Array Value} (x y : Operand) (ho : o.op = .store 62 x y) (hx : a.eval x = .pointer (some ⟨g, 0, none⟩)) (hy : a.eval y = .agg (fa bw kw be ke F)) (hb : w.heap[g]? = some (.cells Z 62 (0, 0))) (hz : Z.size = 77)
    (h : ∀ w', Fbox w' g bw kw be ke F → Keep (fun k => k = g) w w' → w'.heap.size = w.heap.size → K (a.put o.dst undef) w') : o.wp Try.prog a w K Q :=
  wp_store_row _ x y ho g _ hx hy _ _ hb (sizeFa _ _ _ _ _) (by rw [fa_size, hz]) (fa_one _ _ _ _ _) (h _ (setRow_heap w g _ _ _ _ hb) ⟨rfl, rfl, rfl, by simp, fun k hk hn => setRow_other _ _ _ _ hn⟩ (by simp))
end Rdl
end Go.Proofs.Ytfghlfolejpjjaa

/- What every flash keeps: plain laws. -/
namespace Go.Proofs.Ytfghlfolejpjjaa.Cf
open Go.RowKit
set_option linter.unusedVariables false
theorem ok_with {s : Fl} (h : s.ok) {m w : Int} (m0 : 0 ≤ m) (m1 : m ≤ 3) (hw : w = 0 ∨ w = 64 ∨ w = 32 ∨ w = 96) : ({ s with mode := m, wait := w } : Fl).ok := ⟨m0, m1, hw, h.elo, h.ehi, h.jobs⟩
theorem prog1_ok {s : Fl} (h : s.ok) (a : Int) {v : Int} (hv : 0 ≤ v ∧ v < 4294967296) : (prog1 s a v).ok := by
  unfold prog1
  split
  · exact setE_ok h (by decide) (by decide)
  · refine ⟨h.mlo, h.mhi, h.waits, h.elo, h.ehi, fun j hj => ?_⟩
    simp only [Option.some.injEq] at hj
    subst hj
    exact ⟨by show (0 : Int) ≤ 3; decide, by show (3 : Int) ≤ 20; decide, hv.1, hv.2⟩
theorem eras1_ok {s : Fl} (h : s.ok) (a v : Int) : (eras1 s a v).ok := by
  unfold eras1
  split
  · split
    · exact setE_ok h (by decide) (by decide)
    · refine ⟨h.mlo, h.mhi, h.waits, h.elo, h.ehi, fun j hj => ?_⟩
      simp only [Option.some.injEq] at hj
      subst hj
      exact ⟨by show (0 : Int) ≤ 20; decide, by show (20 : Int) ≤ 20; decide, by show (0 : Int) ≤ 0; decide, by show (0 : Int) < 4294967296; decide⟩
  · exact setE_ok h (by decide) (by decide)
theorem lock1_ok {s : Fl} (h : s.ok) (a v : Int) : (lock1 s a v).ok := by
  unfold lock1
  split
  · exact ⟨h.mlo, h.mhi, h.waits, h.elo, h.ehi, h.jobs⟩
  · split
    · exact ⟨h.mlo, h.mhi, h.waits, h.elo, h.ehi, h.jobs⟩
    · exact setE_ok h (by decide) (by decide)
theorem command_ok {s : Fl} (h : s.ok) (v : Int) : (command s v).ok := by
  have mk : ∀ (m w e : Int), 0 ≤ m → m ≤ 3 → (w = 0 ∨ w = 64 ∨ w = 32 ∨ w = 96) → 0 ≤ e → e < 4294967296 → (⟨s.c, m, w, e, s.locks, s.job⟩ : Fl).ok := fun m w e a b c d f => ⟨a, b, c, d, f, h.jobs⟩
  unfold command
  split
  · exact mk 0 s.wait s.errs (by decide) (by decide) h.waits h.elo h.ehi
  split
  · exact mk 1 s.wait s.errs (by decide) (by decide) h.waits h.elo h.ehi
  split
  · exact mk 2 s.wait s.errs (by decide) (by decide) h.waits h.elo h.ehi
  split
  · exact mk 3 s.wait s.errs (by decide) (by decide) h.waits h.elo h.ehi
  split
  · exact mk 1 s.wait 0 (by decide) (by decide) h.waits (by decide) (by decide)
  split
  · exact mk 1 64 s.errs (by decide) (by decide) (.inr (.inl rfl)) h.elo h.ehi
  split
  · exact mk 1 32 s.errs (by decide) (by decide) (.inr (.inr (.inl rfl))) h.elo h.ehi
  split
  · exact mk 1 96 s.errs (by decide) (by decide) (.inr (.inr (.inr rfl))) h.elo h.ehi
  exact setE_ok (mk 1 s.wait s.errs (by decide) (by decide) h.waits h.elo h.ehi) (by decide) (by decide)
theorem waited_ok {s : Fl} (h : s.ok) (a : Int) {v : Int} (hv : 0 ≤ v ∧ v < 4294967296) : (waited s a v).ok := by
  have h1 : ({ s with wait := 0, mode := 1 } : Fl).ok := ⟨by show (0 : Int) ≤ 1; decide, by show (1 : Int) ≤ 3; decide, .inl rfl, h.elo, h.ehi, h.jobs⟩
  unfold waited
  split
  · exact prog1_ok h1 a hv
  split
  · exact eras1_ok h1 a v
  exact lock1_ok h1 a v
theorem write_ok {s : Fl} (h : s.ok) (a : Int) {v : Int} (hv : 0 ≤ v ∧ v < 4294967296) : (write s a v).2.ok := by
  unfold write
  split
  · cases s.job with
    | some j => exact h
    | none =>
      simp only
      split
      · exact command_ok h v
      · exact waited_ok h a hv
  · exact h
theorem tick_ok {s : Fl} (h : s.ok) {n : Int} : (tick s n).2.ok := by
  unfold tick
  split
  · split
    · exact h
    · split
      · exact h
      · rename_i j hj
        have o := h.jobs j hj
        split
        · refine ⟨h.mlo, h.mhi, h.waits, h.elo, h.ehi, fun j' hj' => ?_⟩
          simp only [Option.some.injEq] at hj'
          subst hj'
          have := o.hi
          exact ⟨by show 0 ≤ j.left - n; omega, by show j.left - n ≤ 20; omega, o.vlo, o.vhi⟩
        · have h0 : ({ s with c := (does s.c j).2, job := none } : Fl).ok := ⟨h.mlo, h.mhi, h.waits, h.elo, h.ehi, fun j' hj' => by simp at hj'⟩
          split
          · exact setE_ok h0 (by decide) (by decide)
          · exact h0
  · exact h
end Go.Proofs.Ytfghlfolejpjjaa.Cf

/- The reference's driver: write, walked. -/
namespace Go.Proofs.Ytfghlfolejpjjaa
open Go.RowKit
set_option linter.unusedVariables false
set_option linter.unusedSimpArgs false
attribute [local go_sem] max2_int min2_int max_two min_two
namespace Rdl
open Rfl Rcfi
theorem undrew {W w' : World} (h : Below W.drew.heap.size W.drew w') : Below W.heap.size W w' := ⟨h.os, h.tape, h.output, h.size, h.block⟩
theorem below_al_drew (W : World) (o : Obj) : Below W.heap.size W (W.alloc o).drew := (fun h : Below W.heap.size W (W.alloc o) => (⟨h.os, h.tape, h.output, h.size, h.block⟩ : Below W.heap.size W (W.alloc o).drew)) ((Below.refl _ W).alloc (Nat.le_refl _) o)
theorem wanted_do {c : Bool} {P Q : Prop} (h : c = true) (p : P) : if c = true then P else Q := by rw [if_pos h]; exact p
theorem below_al (W : World) (o : Obj) : Below W.heap.size W (W.alloc o) := (Below.refl _ W).alloc (Nat.le_refl _) o
set_option maxHeartbeats 4000000 in
set_option maxRecDepth 100000 in
theorem write_c {w : World} {bw kw be ke : Nat} {s s' : Cf.Fl} {t : Int} (hc : s.c.ok) (hs : s.ok) (h : Eo s.errs) {at_ e : Int} {zs : List Int} {r off cap : Nat} (hl : zs.length ≤ 64) (hz : ∀ i : Nat, 0 ≤ zs.getD i 0 ∧ zs.getD i 0 < 4294967296) (hcell : ∀ i, i < zs.length → w.cell? ⟨r, off + i, none⟩ = some (.int .u32 (zs.getD i 0))) (q : Hid (Cf.wrs s at_ zs zs.length = (e, s'))) :
    Calls Try.prog 49 #[.agg (da bw kw be ke (rf s) t), .int .i64 at_, .slice (some ⟨r, off, none⟩) zs.length cap] w fun x w' => x = .returned (.tuple #[.agg (da bw kw be ke (rf s') t), .int .i64 e]) ∧ Below w.heap.size w w' := by
  have T0 := TwoD.start w bw kw be ke (rf s) t Try.zeroCells64
  have HC := Lib.hid hcell
  clear hcell
  have hl2 : (zs.length : Int) ≤ 64 := by omega
  go_enter Try.func49, Try.ntmps49
  go_upto_region 1 with (fail)
  generalize (w.alloc (.cells (da bw kw be ke (rf s) t) 64)).alloc (.cells Try.zeroCells64 64) = W at *
  go_wp2
  go_loopw [8] (fun i wr => ∃ (k : Nat) (sk : Cf.Fl), k ≤ zs.length ∧ i = .int .i64 k ∧ Hid (Cf.wrs s at_ zs k = (0, sk)) ∧ sk.ok ∧ Eo sk.errs ∧ Hid (sk.c = s.c) ∧ TwoD w wr bw kw be ke (rf sk) t Try.zeroCells64) (fun i _ => zs.length - (intOf i).toNat)
  case atStart => exact ⟨0, s, Nat.zero_le _, rfl, Lib.hid rfl, hs, h, Lib.hid rfl, T0⟩
  case round =>
    clear T0
    obtain ⟨k, sk, hk, rfl, qk, ok, eo, cc, T⟩ := hrel
    by_cases h3 : k < zs.length
    · have h4 : (k : Int) < (zs.length : Int) := by omega
      have y := Sl.below_cell T.below (HC.out k h3)
      obtain ⟨⟨e1, s1⟩, q1⟩ : ∃ p, Hid (Cf.write sk at_ (zs.getD k 0) = p) := ⟨_, Lib.hid rfl⟩
      have ok1 : s1.ok := by have := Cf.write_ok ok at_ (hz k); rw [q1.out] at this; exact this
      have eo1 : Eo s1.errs := by have := write_eo eo at_ (zs.getD k 0); rw [q1.out] at this; exact this
      have cc1 : Hid (s1.c = s.c) := Lib.hid (by have := Rfl.write_c sk at_ (zs.getD k 0); rw [q1.out] at this; exact this.trans cc.out)
      have hck : sk.c.ok := by rw [cc.out]; exact hc
      have hv := hz k
      have HS : Hid (Cf.wrs s at_ zs (k + 1) = (e1, s1)) := Lib.hid (by rw [Cf.wrs, if_pos (by rw [qk.out]), qk.out]; exact q1.out)
      generalize zs.getD k 0 = z at y q1 hv
      go_wp2
      have TT := T
      have PX := T.box
      refine wp_region_noPanic ?_
      refine wp_region_held_drew (S := fun W => Dbox W w.heap.size bw kw be ke (rf sk) t ∧ W.cell? ⟨r, off + k, none⟩ = some (.int .u32 z)) (by kernel_rfl) ?_ (fun hHeld => ?_)
      · exact ⟨PX, y⟩
      refine wpAnyH_take (i := 0) (v := ?_) rfl (by kernel_rfl) (by kernel_rfl) (by kernel_rfl) (fun _ _ _ h => h) (Or.inl ⟨by kernel_rfl, ?_⟩) (by assumption) ?_
      rotate_left
      · ((intro w hSw; (try dsimp only at hSw); go_simp) <;> with_reducible rfl)
      (try simp only [Act.put, List.setIfInBounds_toArray, List.set_cons_zero, List.set_cons_succ])
      refine wpAnyH_take (i := 1) (v := .agg (fa bw kw be ke (rf sk))) rfl (by kernel_rfl) (by kernel_rfl) (by kernel_rfl) (fun _ _ _ h => h) (Or.inl ⟨by kernel_rfl, fun W hSw => exec_df _ rfl rfl hSw.1⟩) (by assumption) ?_
      (try simp only [Act.put, List.setIfInBounds_toArray, List.set_cons_zero, List.set_cons_succ])
      refine wpAnyH_take (i := 2) (v := ?_) rfl (by kernel_rfl) (by kernel_rfl) (by kernel_rfl) (fun _ _ _ h => h) (Or.inl ⟨by kernel_rfl, ?_⟩) (by assumption) ?_
      rotate_left
      · ((intro w hSw; (try dsimp only at hSw); go_simp) <;> with_reducible rfl)
      (try simp only [Act.put, List.setIfInBounds_toArray, List.set_cons_zero, List.set_cons_succ])
      refine wpAnyH_take (i := 3) (v := ?_) rfl (by kernel_rfl) (by kernel_rfl) (by kernel_rfl) (fun _ _ _ h => h) (Or.inl ⟨by kernel_rfl, ?_⟩) (by assumption) ?_
      rotate_left
      · ((intro w hSw; (try dsimp only at hSw); go_simp) <;> with_reducible rfl)
      (try simp only [Act.put, List.setIfInBounds_toArray, List.set_cons_zero, List.set_cons_succ])
      refine wpAnyH_take (i := 4) (v := ?_) rfl (by kernel_rfl) (by kernel_rfl) (by kernel_rfl) (fun _ _ _ h => h) (Or.inl ⟨by kernel_rfl, ?_⟩) (by assumption) ?_
      rotate_left
      · ((intro w hSw; (try dsimp only at hSw); go_simp) <;> with_reducible rfl)
      (try simp only [Act.put, List.setIfInBounds_toArray, List.set_cons_zero, List.set_cons_succ])
      refine wpAnyH_take (i := 5) (v := ?_) rfl (by kernel_rfl) (by kernel_rfl) (by kernel_rfl) (fun _ _ _ h => h) (Or.inl ⟨by kernel_rfl, ?_⟩) (by assumption) ?_
      rotate_left
      · ((intro w hSw; (try dsimp only at hSw); go_simp) <;> with_reducible rfl)
      (try simp only [Act.put, List.setIfInBounds_toArray, List.set_cons_zero, List.set_cons_succ])
      refine wpAnyH_take (i := 6) (v := ?_) rfl (by kernel_rfl) (by kernel_rfl) (by kernel_rfl) (fun _ _ _ h => h) (Or.inl ⟨by kernel_rfl, ?_⟩) (by assumption) ?_
      rotate_left
      · ((intro w hSw; (try dsimp only at hSw); go_simp) <;> with_reducible rfl)
      (try simp only [Act.put, List.setIfInBounds_toArray, List.set_cons_zero, List.set_cons_succ])
      refine wpAnyH_ready (rs := [7, 11]) (by kernel_rfl) (by simp) ?_
      refine AllReadyH.cons rfl (fun K hK => ?_) (AllReadyH.cons rfl (fun K hK => ?_) AllReadyH.nil)
      focus
        go_simp
        (go_at_call 62; refine (write_x hck ok eo hv q1).mono ?_; rintro x w5 ⟨rfl, b5⟩; (try replace b5 := undrew b5); have PP := TT.then b5; replace PX := PP.box; replace y := Sl.below_cell b5 y; clear TT T b5)
        clear hHeld
        refine hK.out _ _ ?_ (fun hHeld => ?_)
        · exact ⟨PX, y⟩
        clear hK K
        (try simp only [Act.put, List.setIfInBounds_toArray, List.set_cons_zero, List.set_cons_succ])
        refine wpAnyH_take (i := 8) (v := ?_) rfl (by kernel_rfl) (by kernel_rfl) (by kernel_rfl) (fun _ _ _ h => h) (Or.inl ⟨by kernel_rfl, ?_⟩) (by assumption) ?_
        rotate_left
        · ((intro w hSw; (try dsimp only at hSw); go_simp) <;> with_reducible rfl)
        (try simp only [Act.put, List.setIfInBounds_toArray, List.set_cons_zero, List.set_cons_succ])
        refine wpAnyH_take (i := 9) (v := ?_) rfl (by kernel_rfl) (by kernel_rfl) (by kernel_rfl) (fun _ _ _ h => h) (Or.inl ⟨by kernel_rfl, ?_⟩) (by assumption) ?_
        rotate_left
        · ((intro w hSw; (try dsimp only at hSw); go_simp) <;> with_reducible rfl)
        (try simp only [Act.put, List.setIfInBounds_toArray, List.set_cons_zero, List.set_cons_succ])
        refine wpAnyH_take (i := 10) (v := ?_) rfl (by kernel_rfl) (by kernel_rfl) (by kernel_rfl) (fun _ _ _ h => h) (Or.inl ⟨by kernel_rfl, ?_⟩) (by assumption) ?_
        rotate_left
        · ((intro w hSw; (try dsimp only at hSw); go_simp) <;> with_reducible rfl)
        (try simp only [Act.put, List.setIfInBounds_toArray, List.set_cons_zero, List.set_cons_succ])
        refine wpAnyH_ready (rs := [11]) (by kernel_rfl) (by simp) ?_
        refine AllReadyH.cons rfl (fun K hK => ?_) AllReadyH.nil
        have HYR : r < w5.heap.size := World.block_lt_of_cell? _ _ y
        have hLT : w.heap.size + 1 < w5.heap.size := (Array.getElem?_eq_some_iff.1 PP.res).1
        have HZ := heap_alloc_new w5 (.cells Try.zeroCells62 62)
        replace PP := PP.then (below_al w5 (.cells Try.zeroCells62 62))
        replace PX := PP.box
        replace y := Sl.below_cell (below_al w5 (.cells Try.zeroCells62 62)) y
        go_simp
        generalize w5.alloc (.cells Try.zeroCells62 62) = wA at *
        clear hHeld
        refine hK.out _ _ ?_ (fun hHeld => ?_)
        · exact ⟨PX, y⟩
        clear hK K
        (try simp only [Act.put, List.setIfInBounds_toArray, List.set_cons_zero, List.set_cons_succ])
        refine wpAnyH_ready (rs := [12]) (by kernel_rfl) (by simp) ?_
        refine AllReadyH.cons rfl (fun K hK => ?_) AllReadyH.nil
        refine wanted_do rfl ?_
        refine wp_store_f _ _ rfl rfl rfl HZ zero77 ?_
        intro w6 HB hk6 hs6
        replace PP := PP.away hLT hk6
        replace PX := PP.box
        replace y := Keep.cell hk6 y (fun e => by have := HYR; dsimp only at e this; omega)
        clear hs6 hk6 HZ
        clear hHeld
        refine hK.out _ _ ?_ (fun hHeld => ?_)
        · exact ⟨PX, y⟩
        clear hK K
        (try simp only [Act.put, List.setIfInBounds_toArray, List.set_cons_zero, List.set_cons_succ])
        refine wpAnyH_take (i := 13) (v := ?_) rfl (by kernel_rfl) (by kernel_rfl) (by kernel_rfl) (fun _ _ _ h => h) (Or.inl ⟨by kernel_rfl, ?_⟩) (by assumption) ?_
        rotate_left
        · ((intro w hSw; (try dsimp only at hSw); go_simp) <;> with_reducible rfl)
        (try simp only [Act.put, List.setIfInBounds_toArray, List.set_cons_zero, List.set_cons_succ])
        refine wpAnyH_done (by kernel_rfl) ?_ _
        refine NoPanic.normal ?_
      rotate_left
      focus
        have HYR : r < wr.heap.size := World.block_lt_of_cell? _ _ y
        have hLT : w.heap.size + 1 < wr.heap.size := (Array.getElem?_eq_some_iff.1 TT.res).1
        have HZ : (wr.alloc (.cells Try.zeroCells62 62)).drew.heap[wr.heap.size]? = _ := heap_alloc_new wr (.cells Try.zeroCells62 62)
        replace TT := TT.then (below_al_drew wr (.cells Try.zeroCells62 62))
        replace PX := TT.box
        replace y := Sl.below_cell (below_al_drew wr (.cells Try.zeroCells62 62)) y
        go_simp
        generalize (wr.alloc (.cells Try.zeroCells62 62)).drew = wA at *
        clear hHeld
        refine hK.out _ _ ?_ (fun hHeld => ?_)
        · exact ⟨PX, y⟩
        clear hK K
        (try simp only [Act.put, List.setIfInBounds_toArray, List.set_cons_zero, List.set_cons_succ])
        refine wpAnyH_ready (rs := [7]) (by kernel_rfl) (by simp) ?_
        refine AllReadyH.cons rfl (fun K hK => ?_) AllReadyH.nil
        go_simp
        (go_at_call 62; refine (write_x hck ok eo hv q1).mono ?_; rintro x w5 ⟨rfl, b5⟩; (try replace b5 := undrew b5); replace HZ := (b5.block _ (Array.getElem?_eq_some_iff.1 HZ).1).trans HZ; have PP := TT.then b5; replace PX := PP.box; replace y := Sl.below_cell b5 y; clear TT T b5)
        clear hHeld
        refine hK.out _ _ ?_ (fun hHeld => ?_)
        · exact ⟨PX, y⟩
        clear hK K
        (try simp only [Act.put, List.setIfInBounds_toArray, List.set_cons_zero, List.set_cons_succ])
        refine wpAnyH_take (i := 8) (v := ?_) rfl (by kernel_rfl) (by kernel_rfl) (by kernel_rfl) (fun _ _ _ h => h) (Or.inl ⟨by kernel_rfl, ?_⟩) (by assumption) ?_
        rotate_left
        · ((intro w hSw; (try dsimp only at hSw); go_simp) <;> with_reducible rfl)
        (try simp only [Act.put, List.setIfInBounds_toArray, List.set_cons_zero, List.set_cons_succ])
        refine wpAnyH_take (i := 9) (v := ?_) rfl (by kernel_rfl) (by kernel_rfl) (by kernel_rfl) (fun _ _ _ h => h) (Or.inl ⟨by kernel_rfl, ?_⟩) (by assumption) ?_
        rotate_left
        · ((intro w hSw; (try dsimp only at hSw); go_simp) <;> with_reducible rfl)
        (try simp only [Act.put, List.setIfInBounds_toArray, List.set_cons_zero, List.set_cons_succ])
        refine wpAnyH_take (i := 10) (v := ?_) rfl (by kernel_rfl) (by kernel_rfl) (by kernel_rfl) (fun _ _ _ h => h) (Or.inl ⟨by kernel_rfl, ?_⟩) (by assumption) ?_
        rotate_left
        · ((intro w hSw; (try dsimp only at hSw); go_simp) <;> with_reducible rfl)
        (try simp only [Act.put, List.setIfInBounds_toArray, List.set_cons_zero, List.set_cons_succ])
        refine wpAnyH_ready (rs := [12]) (by kernel_rfl) (by simp) ?_
        refine AllReadyH.cons rfl (fun K hK => ?_) AllReadyH.nil
        refine wanted_do rfl ?_
        refine wp_store_f _ _ rfl rfl rfl HZ zero77 ?_
        intro w6 HB hk6 hs6
        replace PP := PP.away hLT hk6
        replace PX := PP.box
        replace y := Keep.cell hk6 y (fun e => by have := HYR; dsimp only at e this; omega)
        clear hs6 hk6 HZ
        clear hHeld
        refine hK.out _ _ ?_ (fun hHeld => ?_)
        · exact ⟨PX, y⟩
        clear hK K
        (try simp only [Act.put, List.setIfInBounds_toArray, List.set_cons_zero, List.set_cons_succ])
        refine wpAnyH_take (i := 13) (v := ?_) rfl (by kernel_rfl) (by kernel_rfl) (by kernel_rfl) (fun _ _ _ h => h) (Or.inl ⟨by kernel_rfl, ?_⟩) (by assumption) ?_
        rotate_left
        · ((intro w hSw; (try dsimp only at hSw); go_simp) <;> with_reducible rfl)
        (try simp only [Act.put, List.setIfInBounds_toArray, List.set_cons_zero, List.set_cons_succ])
        refine wpAnyH_done (by kernel_rfl) ?_ _
        refine NoPanic.normal ?_
      all_goals
        clear PX y hHeld
        by_cases he : e1 = 0
        · subst he
          go_wp2_with (first | (refine load_f rfl _ rfl rfl HB ?_) | (refine store_df rfl _ _ rfl rfl rfl PP.box ?_; intro w8 hb8 hk8 hs8; have P8 := PP.row hb8 hk8; clear PP HB hs8))
          go_roundw
          case rel => exact ⟨k + 1, s1, by omega, by go_num, HS, ok1, eo1, cc1, P8⟩
          case measure => simp [intOf]; omega
        · have E : Cf.wrs s at_ zs zs.length = (e1, s1) := by rw [show zs.length = (k + 1) + (zs.length - (k + 1)) by omega, Cf.wrs_stop (by rw [HS.out]; exact he), HS.out]
          rw [q.out, Prod.mk.injEq] at E
          obtain ⟨rfl, rfl⟩ := E
          have hb1 : (e != 0) = true := by simpa using he
          have hb2 : (e == 0) = false := by simpa using he
          clear he
          go_wp2_with (first | (refine load_f rfl _ rfl rfl HB ?_) | (refine store_df rfl _ _ rfl rfl rfl PP.box ?_; intro w8 hb8 hk8 hs8; have P8 := PP.row hb8 hk8; clear PP HB hs8) | (refine load_d rfl _ rfl rfl P8.box ?_) | (refine store_d rfl _ _ rfl rfl rfl P8.res zero78 ?_; intro w9 hb9 hk9 hs9))
          exact bodyPost_ret (retD2 rfl _ _ (w.heap.size + 1) _ rfl rfl hb9) rfl ⟨rfl, below_row P8.below hk9 (Nat.le_succ _)⟩
    · obtain rfl : k = zs.length := by omega
      have e0 : e = 0 := by have := q.out; rw [qk.out] at this; cases this; rfl
      have es : sk = s' := by have := q.out; rw [qk.out] at this; cases this; rfl
      subst es e0
      go_wp2_with (first | (refine load_d rfl _ rfl rfl T.box ?_) | (refine store_d rfl _ _ rfl rfl rfl T.res zero78 ?_; intro w3 hb1 hk1 hs1))
      exact bodyPost_ret (retD2 rfl _ _ (w.heap.size + 1) _ rfl rfl hb1) rfl ⟨rfl, below_row T.below hk1 (Nat.le_succ _)⟩
end Rdl
end Go.Proofs.Ytfghlfolejpjjaa

/- The reference's driver: errors. -/
namespace Go.Proofs.Ytfghlfolejpjjaa
open Go.RowKit
set_option linter.unusedVariables false
set_option linter.unusedSimpArgs false
attribute [local go_sem] max2_int min2_int max_two min_two
namespace Rdl
open Rfl Rcfi
theorem write1_c {w : World} {bw kw be ke : Nat} {s s' : Cf.Fl} {t : Int} (hc : s.c.ok) (hs : s.ok) (h : Eo s.errs) {at_ v e : Int} {r cap : Nat} (hv : 0 ≤ v ∧ v < 4294967296) (hr : w.cell? ⟨r, 0, none⟩ = some (.int .u32 v)) (q : Hid (Cf.write s at_ v = (e, s'))) :
    Calls Try.prog 49 #[.agg (da bw kw be ke (rf s) t), .int .i64 at_, .slice (some ⟨r, 0, none⟩) 1 cap] w fun x w' => x = .returned (.tuple #[.agg (da bw kw be ke (rf s') t), .int .i64 e]) ∧ Below w.heap.size w w' :=
  write_c (zs := [v]) hc hs h (by simp) (fun i => by match i with | 0 => exact hv | i + 1 => exact ⟨by simp, by simp⟩) (fun i hi => by match i, hi with | 0, _ => exact hr) q
theorem write2_c {w : World} {bw kw be ke : Nat} {s s' : Cf.Fl} {t : Int} (hc : s.c.ok) (hs : s.ok) (h : Eo s.errs) {at_ a b e : Int} {r cap : Nat} (ha : 0 ≤ a ∧ a < 4294967296) (hb : 0 ≤ b ∧ b < 4294967296) (hr0 : w.cell? ⟨r, 0, none⟩ = some (.int .u32 a)) (hr1 : w.cell? ⟨r, 1, none⟩ = some (.int .u32 b)) (q : Hid (Cf.both s at_ a b = (e, s'))) :
    Calls Try.prog 49 #[.agg (da bw kw be ke (rf s) t), .int .i64 at_, .slice (some ⟨r, 0, none⟩) 2 cap] w fun x w' => x = .returned (.tuple #[.agg (da bw kw be ke (rf s') t), .int .i64 e]) ∧ Below w.heap.size w w' :=
  write_c (zs := [a, b]) hc hs h (by simp) (fun i => by match i with | 0 => exact ha | 1 => exact hb | i + 2 => exact ⟨by simp, by simp⟩) (fun i hi => by match i, hi with | 0, _ => exact hr0 | 1, _ => exact hr1) q
set_option maxHeartbeats 1000000 in
set_option maxRecDepth 100000 in
theorem errors_ok {w : World} {bw kw be ke : Nat} {s : Cf.Fl} {t : Int} (h : Eo s.errs) (q : Hid (Cf.status s = 128)) :
    Calls Try.prog 52 #[.agg (da bw kw be ke (rf s) t)] w fun x w' => x = .returned (.tuple #[.agg (da bw kw be ke (rf s) t), .int .i64 0]) ∧ Below w.heap.size w w' := by
  have T0 := TwoD.start w bw kw be ke (rf s) t Try.zeroCells64
  go_enter Try.func52, Try.ntmps52
  go_upto_region 1 with (fail)
  generalize (w.alloc (.cells (da bw kw be ke (rf s) t) 64)).alloc (.cells Try.zeroCells64 64) = W at *
  go_wp2_with (first | (refine load_df rfl _ rfl rfl T0.box ?_) | (go_at_call 63; refine (status_x h q).mono ?_; rintro x w1 ⟨rfl, b1⟩; have T1 := T0.then b1; clear T0 b1) | (refine load_d rfl _ rfl rfl T1.box ?_) | (refine store_d rfl _ _ rfl rfl rfl T1.res zero78 ?_; intro w9 hb9 hk9 hs9))
  exact bodyPost_ret (retD2 rfl _ _ (w.heap.size + 1) _ rfl rfl hb9) rfl ⟨rfl, below_row T1.below hk9 (Nat.le_succ _)⟩
set_option maxHeartbeats 1000000 in
set_option maxRecDepth 100000 in
theorem errors_bad {w : World} {bw kw be ke : Nat} {s s' : Cf.Fl} {t : Int} (hc : s.c.ok) (hs : s.ok) (h : Eo s.errs) {v u r : Int} (hv : v = 146 ∧ r = 6 ∨ v = 162 ∧ r = 6 ∨ v = 160 ∧ r = 5) (q : Hid (Cf.status s = v)) (q2 : Hid (Cf.write s 0 80 = (u, s'))) :
    Calls Try.prog 52 #[.agg (da bw kw be ke (rf s) t)] w fun x w' => x = .returned (.tuple #[.agg (da bw kw be ke (rf s') t), .int .i64 r]) ∧ Below w.heap.size w w' := by
  rcases hv with ⟨rfl, rfl⟩ | ⟨rfl, rfl⟩ | ⟨rfl, rfl⟩
  all_goals
    have T0 := TwoD.start w bw kw be ke (rf s) t Try.zeroCells64
    go_enter Try.func52, Try.ntmps52
    go_upto_region 1 with (fail)
    generalize (w.alloc (.cells (da bw kw be ke (rf s) t) 64)).alloc (.cells Try.zeroCells64 64) = W at *
    go_wp2_with (first | (refine load_df rfl _ rfl rfl T0.box ?_) | (go_at_call 63; refine (status_x h q).mono ?_; rintro x w1 ⟨rfl, b1⟩; have T1 := T0.then b1; have TA := T1.then (below_al w1 (.cells #[.int .u32 80] 34)); have ZA := World.cell?_alloc_mark w1 #[.int .u32 80] 34 (0, 0) 0; clear T0 b1) | (refine load_d rfl _ rfl rfl TA.box ?_) | (refine load_d rfl _ rfl rfl T1.box ?_) | (go_at_call 49; refine (write1_c hc hs h (by decide) ZA q2).mono ?_; rintro x w2 ⟨rfl, b2⟩; have T2 := TA.then b2; clear TA b2) | (refine store_d rfl _ _ rfl rfl rfl T2.box (da_size _ _ _ _ _ _) ?_; intro w3 hb3 hk3 hs3; have T3 := T2.row hb3 hk3; clear T2 hb3 hk3 hs3) | (refine load_d rfl _ rfl rfl T3.box ?_) | (refine store_d rfl _ _ rfl rfl rfl T3.res zero78 ?_; intro w9 hb9 hk9 hs9))
    exact bodyPost_ret (retD2 rfl _ _ (w.heap.size + 1) _ rfl rfl hb9) rfl ⟨rfl, below_row T3.below hk9 (Nat.le_succ _)⟩
end Rdl
end Go.Proofs.Ytfghlfolejpjjaa

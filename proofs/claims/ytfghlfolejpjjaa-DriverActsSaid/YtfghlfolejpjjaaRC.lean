/- The parts: Rfl Rcfi Rcfi2 Rcfi3. -/
import Derived.Test.YtfghlfolejpjjaaRB
import Derived.Test.YtfghlfolejpjjaaCf
import Derived.Test.YtfghlfolejpjjaaRA
import Derived.StillTailTactics
import Derived.Deep.Cut
import Derived.Laws.Tables
/- The reference's flash as a value of 77 cells: what lies where, and what becomes of it by each store. -/
namespace Go.Proofs.Ytfghlfolejpjjaa
open Go.RowKit
set_option linter.unusedVariables false
/-- The reference's flash. -/
structure RF where
  c : Nr.C
  mode : Int
  wait : Int
  errs : Int
  locks : Nat → Bool
  job : Int
  at_ : Int
  v : Int
  left : Int
namespace Rfl
def jobN : Option Cf.Jb → Int | none => 0 | some j => if j.isp then 64 else 32
def atN : Option Cf.Jb → Int | none => 0 | some j => j.at_
def vN : Option Cf.Jb → Int | none => 0 | some j => j.v
def leftN : Option Cf.Jb → Int | none => 0 | some j => j.left
/-- The document's flash of a plain one. -/
def rf (s : Cf.Fl) : RF := ⟨s.c, s.mode, s.wait, s.errs, fun i => s.locks i, jobN s.job, atN s.job, vN s.job, leftN s.job⟩
/-- Its cells. -/
def rcells (bw kw be ke : Nat) (F : RF) : List Value :=
  [.slice (some ⟨bw, 0, none⟩) F.c.words.length kw, .slice (some ⟨be, 0, none⟩) F.c.wear.length ke, .int .i64 F.c.endure, .int .i64 F.c.fuse, .int .u32 F.c.pick, .bool F.c.off, .int .i64 F.mode, .int .i64 F.wait, .int .u32 F.errs] ++
    ((List.range 64).map fun i => Value.bool (F.locks i)) ++ [.int .i64 F.job, .int .i64 F.at_, .int .u32 F.v, .int .i64 F.left]
def fa (bw kw be ke : Nat) (F : RF) : Array Value := (rcells bw kw be ke F).toArray
theorem rcells_len (bw kw be ke : Nat) (F : RF) : (rcells bw kw be ke F).length = 77 := by simp [rcells]
theorem fa_size (bw kw be ke : Nat) (F : RF) : (fa bw kw be ke F).size = 77 := by simp [fa, rcells_len]
theorem rlock (bw kw be ke : Nat) (F : RF) {i : Nat} (h : i < 64) : (rcells bw kw be ke F)[9 + i]? = some (.bool (F.locks i)) := by
  unfold rcells
  rw [List.getElem?_append_left (by simp; omega), List.getElem?_append_right (by simp)]
  simp [h]
theorem rtail (bw kw be ke : Nat) (F : RF) (i : Nat) : (rcells bw kw be ke F)[73 + i]? = ([.int .i64 F.job, .int .i64 F.at_, .int .u32 F.v, .int .i64 F.left] : List Value)[i]? := by
  unfold rcells
  rw [List.getElem?_append_right (by simp)]
  simp
theorem rset_head (bw kw be ke : Nat) (F : RF) {i : Nat} (h : i < 9) (x : Value) : (rcells bw kw be ke F).set i x = ([.slice (some ⟨bw, 0, none⟩) F.c.words.length kw, .slice (some ⟨be, 0, none⟩) F.c.wear.length ke, .int .i64 F.c.endure, .int .i64 F.c.fuse, .int .u32 F.c.pick, .bool F.c.off, .int .i64 F.mode, .int .i64 F.wait, .int .u32 F.errs] : List Value).set i x ++
    ((List.range 64).map fun i => Value.bool (F.locks i)) ++ [.int .i64 F.job, .int .i64 F.at_, .int .u32 F.v, .int .i64 F.left] := by
  unfold rcells
  rw [List.set_append_left _ _ (by simp; omega), List.set_append_left _ _ (by simp; omega)]
theorem rset_tail (bw kw be ke : Nat) (F : RF) (i : Nat) (x : Value) : (rcells bw kw be ke F).set (73 + i) x = [.slice (some ⟨bw, 0, none⟩) F.c.words.length kw, .slice (some ⟨be, 0, none⟩) F.c.wear.length ke, .int .i64 F.c.endure, .int .i64 F.c.fuse, .int .u32 F.c.pick, .bool F.c.off, .int .i64 F.mode, .int .i64 F.wait, .int .u32 F.errs] ++
    ((List.range 64).map fun i => Value.bool (F.locks i)) ++ ([.int .i64 F.job, .int .i64 F.at_, .int .u32 F.v, .int .i64 F.left] : List Value).set i x := by
  unfold rcells
  rw [List.set_append_right _ _ (by simp)]
  simp
theorem rset_lock (bw kw be ke : Nat) (F : RF) {i : Nat} (h : i < 64) (b : Bool) : (rcells bw kw be ke F).set (9 + i) (.bool b) = rcells bw kw be ke { F with locks := fun j => if j = i then b else F.locks j } := by
  unfold rcells
  rw [List.set_append_left _ _ (by simp; omega), List.set_append_right _ _ (by simp)]
  congr 2
  apply List.ext_getElem
  · simp
  · intro j h1 h2
    simp [List.getElem_set]
    by_cases e : i = j
    · subst e; simp
    · have e' : ¬ j = i := fun d => e d.symm
      simp [e, e']
/-- The flash's box. -/
def Fbox (w : World) (b bw kw be ke : Nat) (F : RF) : Prop := w.heap[b]? = some (.cells (fa bw kw be ke F) 62 (0, 0))
section
variable {w w' : World} {b bw kw be ke : Nat} {F : RF}
theorem Fbox.cell (h : Fbox w b bw kw be ke F) (i : Nat) : w.cell? ⟨b, i, none⟩ = (rcells bw kw be ke F)[i]? := by
  rw [cell_of_row w b i _ _ _ h]
  simp [fa]
/-- All that the walk reads but the locks. -/
theorem Fbox.cells (h : Fbox w b bw kw be ke F) : w.cell? ⟨b, 0, none⟩ = some (.slice (some ⟨bw, 0, none⟩) F.c.words.length kw) ∧ w.cell? ⟨b, 1, none⟩ = some (.slice (some ⟨be, 0, none⟩) F.c.wear.length ke) ∧ w.cell? ⟨b, 2, none⟩ = some (.int .i64 F.c.endure) ∧ w.cell? ⟨b, 3, none⟩ = some (.int .i64 F.c.fuse) ∧ w.cell? ⟨b, 4, none⟩ = some (.int .u32 F.c.pick) ∧ w.cell? ⟨b, 5, none⟩ = some (.bool F.c.off) ∧
    w.cell? ⟨b, 6, none⟩ = some (.int .i64 F.mode) ∧ w.cell? ⟨b, 7, none⟩ = some (.int .i64 F.wait) ∧ w.cell? ⟨b, 8, none⟩ = some (.int .u32 F.errs) ∧
    w.cell? ⟨b, 73, none⟩ = some (.int .i64 F.job) ∧ w.cell? ⟨b, 74, none⟩ = some (.int .i64 F.at_) ∧ w.cell? ⟨b, 75, none⟩ = some (.int .u32 F.v) ∧ w.cell? ⟨b, 76, none⟩ = some (.int .i64 F.left) ∧ ∀ i, w.frozen? ⟨b, i, none⟩ = false := by
  refine ⟨(h.cell 0).trans rfl, (h.cell 1).trans rfl, (h.cell 2).trans rfl, (h.cell 3).trans rfl, (h.cell 4).trans rfl, (h.cell 5).trans rfl, (h.cell 6).trans rfl, (h.cell 7).trans rfl, (h.cell 8).trans rfl, (h.cell 73).trans (rtail _ _ _ _ _ 0), (h.cell 74).trans (rtail _ _ _ _ _ 1), (h.cell 75).trans (rtail _ _ _ _ _ 2), (h.cell 76).trans (rtail _ _ _ _ _ 3), fun i => frozen_of_row _ _ _ _ _ h⟩
theorem Fbox.lock (h : Fbox w b bw kw be ke F) {i : Nat} (hi : i < 64) : w.cell? ⟨b, 9 + i, none⟩ = some (.bool (F.locks i)) := (h.cell _).trans (rlock _ _ _ _ _ hi)
theorem Fbox.lt (h : Fbox w b bw kw be ke F) : b < w.heap.size := (Array.getElem?_eq_some_iff.1 h).1
theorem Fbox.of (h : Fbox w b bw kw be ke F) (e : w'.heap[b]? = w.heap[b]?) : Fbox w' b bw kw be ke F := e.trans h
theorem Fbox.below (h : Fbox w b bw kw be ke F) (hb : Below w.heap.size w w') : Fbox w' b bw kw be ke F := h.of (hb.block _ h.lt)
theorem Fbox.away {r j : Nat} (h : Fbox w b bw kw be ke F) (n : ¬ b = r) (x : Value) : Fbox (w.setCell ⟨r, j, none⟩ x) b bw kw be ke F := h.of (set_away n x)
theorem Fbox.put {i : Nat} {x : Value} {F' : RF} {bw' kw' be' ke' : Nat} (h : Fbox w b bw kw be ke F) (e : (rcells bw kw be ke F).set i x = rcells bw' kw' be' ke' F') : Fbox (w.setCell ⟨b, i, none⟩ x) b bw' kw' be' ke' F' := by
  refine (heap_set h i x).trans ?_
  have : (fa bw kw be ke F).setIfInBounds i x = fa bw' kw' be' ke' F' := by
    unfold fa
    rw [← e]
    simp
  rw [this]
theorem Fbox.setMode (h : Fbox w b bw kw be ke F) (x : Int) : Fbox (w.setCell ⟨b, 6, none⟩ (.int .i64 x)) b bw kw be ke { F with mode := x } := h.put (rset_head _ _ _ _ _ (by decide) _)
theorem Fbox.setWait (h : Fbox w b bw kw be ke F) (x : Int) : Fbox (w.setCell ⟨b, 7, none⟩ (.int .i64 x)) b bw kw be ke { F with wait := x } := h.put (rset_head _ _ _ _ _ (by decide) _)
theorem Fbox.setErrs (h : Fbox w b bw kw be ke F) (x : Int) : Fbox (w.setCell ⟨b, 8, none⟩ (.int .u32 x)) b bw kw be ke { F with errs := x } := h.put (rset_head _ _ _ _ _ (by decide) _)
theorem Fbox.setJob (h : Fbox w b bw kw be ke F) (x : Int) : Fbox (w.setCell ⟨b, 73, none⟩ (.int .i64 x)) b bw kw be ke { F with job := x } := h.put (rset_tail _ _ _ _ _ 0 _)
theorem Fbox.setAt (h : Fbox w b bw kw be ke F) (x : Int) : Fbox (w.setCell ⟨b, 74, none⟩ (.int .i64 x)) b bw kw be ke { F with at_ := x } := h.put (rset_tail _ _ _ _ _ 1 _)
theorem Fbox.setV (h : Fbox w b bw kw be ke F) (x : Int) : Fbox (w.setCell ⟨b, 75, none⟩ (.int .u32 x)) b bw kw be ke { F with v := x } := h.put (rset_tail _ _ _ _ _ 2 _)
theorem Fbox.setLeft (h : Fbox w b bw kw be ke F) (x : Int) : Fbox (w.setCell ⟨b, 76, none⟩ (.int .i64 x)) b bw kw be ke { F with left := x } := h.put (rset_tail _ _ _ _ _ 3 _)
theorem Fbox.setLock (h : Fbox w b bw kw be ke F) {i : Nat} (hi : i < 64) (x : Bool) : Fbox (w.setCell ⟨b, 9 + i, none⟩ (.bool x)) b bw kw be ke { F with locks := fun j => if j = i then x else F.locks j } := h.put (rset_lock _ _ _ _ _ hi _)
/-- Another chip laid into it. -/
theorem Fbox.setChip {bw' kw' be' ke' : Nat} {c' : Nr.C} (h : Fbox w b bw kw be ke F) : Fbox ((((((w.setCell ⟨b, 0, none⟩ (.slice (some ⟨bw', 0, none⟩) c'.words.length kw')).setCell ⟨b, 1, none⟩ (.slice (some ⟨be', 0, none⟩) c'.wear.length ke')).setCell ⟨b, 2, none⟩ (.int .i64 c'.endure)).setCell ⟨b, 3, none⟩ (.int .i64 c'.fuse)).setCell ⟨b, 4, none⟩ (.int .u32 c'.pick)).setCell ⟨b, 5, none⟩ (.bool c'.off)) b bw' kw' be' ke' { F with c := c' } := by
  refine (heap_set (heap_set (heap_set (heap_set (heap_set (heap_set h 0 _) 1 _) 2 _) 3 _) 4 _) 5 _).trans ?_
  have : ((((((fa bw kw be ke F).setIfInBounds 0 (.slice (some ⟨bw', 0, none⟩) c'.words.length kw')).setIfInBounds 1 (.slice (some ⟨be', 0, none⟩) c'.wear.length ke')).setIfInBounds 2 (.int .i64 c'.endure)).setIfInBounds 3 (.int .i64 c'.fuse)).setIfInBounds 4 (.int .u32 c'.pick)).setIfInBounds 5 (.bool c'.off) = fa bw' kw' be' ke' { F with c := c' } := by
    unfold fa
    simp only [List.setIfInBounds_toArray]
    congr 1
  rw [this]
end
theorem underF : Try.prog.underlying 62 = some (.struct (Try.prog.fieldsOf 62)) := by kernel_rfl
theorem sizeF : (Try.prog.info? 62).map (·.size) = some 77 := by kernel_rfl
theorem fa_one (bw kw be ke : Nat) (F : RF) : (fa bw kw be ke F).all (·.oneCell') = true := by
  unfold fa rcells
  simp [Value.oneCell']
end Rfl
end Go.Proofs.Ytfghlfolejpjjaa

/- The reference's flash: with, wrong, Status. -/
namespace Go.Proofs.Ytfghlfolejpjjaa
open Go.RowKit
set_option linter.unusedVariables false
attribute [local go_sem] max2_int min2_int max_two min_two
namespace Rcfi
open Rfl
theorem sizeFa (bw kw be ke : Nat) (F : RF) : (Try.prog.info? 62).map (·.size) = some (fa bw kw be ke F).size := by rw [fa_size]; exact sizeF
/-- The whole flash out of its box. -/
theorem load_f {ops : Array Oper} {rest : List Oper} {o : Oper} {a : Act} {w : World} {Q : Exit → Act → World → Prop} {bw kw be ke g : Nat} {F : RF} (hgd : o.guard = none) (x : Operand) (ho : o.op = .load 62 x) (hx : a.eval x = .pointer (some ⟨g, 0, none⟩)) (hb : Fbox w g bw kw be ke F)
    (h : wpList Try.prog ops Q rest (a.put o.dst (.agg (fa bw kw be ke F))) w) : wpList Try.prog ops Q (o :: rest) a w :=
  wpList_load_row hgd _ x ho g hx _ _ _ _ hb underF rfl (sizeFa _ _ _ _ _) h
/-- A whole flash into a box. -/
theorem store_f {ops : Array Oper} {rest : List Oper} {o : Oper} {a : Act} {w : World} {Q : Exit → Act → World → Prop} {bw kw be ke g : Nat} {F : RF} {Z : Array Value} (hgd : o.guard = none) (x y : Operand) (ho : o.op = .store 62 x y) (hx : a.eval x = .pointer (some ⟨g, 0, none⟩)) (hy : a.eval y = .agg (fa bw kw be ke F)) (hb : w.heap[g]? = some (.cells Z 62 (0, 0))) (hz : Z.size = 77)
    (h : ∀ w', Fbox w' g bw kw be ke F → Keep (fun k => k = g) w w' → w'.heap.size = w.heap.size → wpList Try.prog ops Q rest (a.put o.dst undef) w') : wpList Try.prog ops Q (o :: rest) a w := by
  refine wpList_store_row hgd _ x y ho g _ hx hy _ _ hb (sizeFa _ _ _ _ _) (by rw [fa_size, hz]) (fa_one _ _ _ _ _) (h _ (setRow_heap w g _ _ _ _ hb) ⟨rfl, rfl, rfl, by simp, fun k hk hn => setRow_other _ _ _ _ hn⟩ (by simp))
theorem still_f {ops : Array Oper} {rest : List Oper} {o : Oper} {a : Act} {w : World} {Q : Act → Prop} {bw kw be ke g : Nat} {F : RF} (hgd : o.guard = none) (x : Operand) (ho : o.op = .load 62 x) (hx : a.eval x = .pointer (some ⟨g, 0, none⟩)) (hb : Fbox w g bw kw be ke F)
    (h : wpStill Try.prog ops w Q rest (a.put o.dst (.agg (fa bw kw be ke F)))) : wpStill Try.prog ops w Q (o :: rest) a := by
  refine wpStill_step fun K hK => ?_
  rw [if_pos (by simp [Region.wanted, hgd])]
  unfold Oper.still execOp
  simp only [ho, hx, Instr.loadAt, Instr.sureAddr, Sem.run_bind, Sem.run_pure, Result.andThen_ok, run_loadVar_row w g _ _ _ _ _ hb underF rfl (sizeFa _ _ _ _ _)]
  exact ⟨rfl, hK _ h⟩
theorem zero77 : (Try.zeroCells62).size = 77 := by kernel_rfl
theorem retF {fn : Func} {p : Tmp} (h : fn.results = #[.cell p 62]) (tmps : Array Value) (w : World) (g : Nat) {bw kw be ke : Nat} {F : RF} (hp : tmps.getD p undef = .pointer (some ⟨g, 0, none⟩)) (hg : Fbox w g bw kw be ke F) :
    (results fn tmps).run Try.prog w = .ok (.agg (fa bw kw be ke F)) w := results_cell_row h tmps w g _ _ _ _ hp hg underF rfl (sizeFa _ _ _ _ _)
theorem retF2 {fn : Func} {p u : Tmp} (h : fn.results = #[.cell p 62, .tmp u]) (tmps : Array Value) (w : World) (g : Nat) (v : Value) {bw kw be ke : Nat} {F : RF} (hp : tmps.getD p undef = .pointer (some ⟨g, 0, none⟩)) (hv : tmps.getD u undef = v) (hg : Fbox w g bw kw be ke F) :
    (results fn tmps).run Try.prog w = .ok (.tuple #[.agg (fa bw kw be ke F), v]) w := by
  have hp' : tmps[p]?.getD undef = .pointer (some ⟨g, 0, none⟩) := by simpa using hp
  have hv' : tmps[u]?.getD undef = v := by simpa using hv
  have hr := run_loadVar_row (P := Try.prog) w g 62 62 _ (0, 0) _ hg underF rfl (sizeFa bw kw be ke F)
  simp [results, h, hp', hv', asAddr, hr]
/-- The box of the argument, and that of the answer. -/
structure Two (w W : World) (bw kw be ke : Nat) (F : RF) (Z : Array Value) : Prop where
  box : Fbox W w.heap.size bw kw be ke F
  res : W.heap[w.heap.size + 1]? = some (.cells Z 62 (0, 0))
  below : Below w.heap.size w W
theorem Two.start (w : World) (bw kw be ke : Nat) (F : RF) (Z : Array Value) : Two w ((w.alloc (.cells (fa bw kw be ke F) 62)).alloc (.cells Z 62)) bw kw be ke F Z := by
  obtain ⟨e0, e1, b⟩ := alloc2_then (Below.refl _ ((w.alloc (.cells (fa bw kw be ke F) 62)).alloc (.cells Z 62)))
  exact ⟨e0, e1, b⟩
theorem below_row {w W W' : World} {r : Nat} (h : Below w.heap.size w W) (k : Keep (fun k => k = r) W W') (hr : w.heap.size ≤ r) : Below w.heap.size w W' :=
  ⟨k.os.trans h.os, k.tape.trans h.tape, k.output.trans h.output, Nat.le_trans h.size k.size, fun i hi => (k.block i (Nat.lt_of_lt_of_le hi h.size) (by omega)).trans (h.block i hi)⟩
theorem Two.alter {w W : World} {bw kw be ke bw' kw' be' ke' : Nat} {F F' : RF} {Z : Array Value} {j : Nat} {x : Value} (T : Two w W bw kw be ke F Z) (h : Fbox (W.setCell ⟨w.heap.size, j, none⟩ x) w.heap.size bw' kw' be' ke' F') : Two w (W.setCell ⟨w.heap.size, j, none⟩ x) bw' kw' be' ke' F' Z :=
  ⟨h, (set_away (by omega) x).trans T.res, T.below.setCell (p := ⟨w.heap.size, j, none⟩) (Nat.le_refl _) x⟩
set_option maxHeartbeats 1000000 in
set_option maxRecDepth 100000 in
theorem with_c {w : World} {bw kw be ke : Nat} {F : RF} (he : 0 ≤ F.errs ∧ F.errs < 4294967296) {b e : Int} (hb : 0 ≤ b ∧ b < 4294967296) (q : Hid (bits .or .u32 F.errs b = e)) :
    Calls Try.prog 71 #[.agg (fa bw kw be ke F), .int .u32 b] w fun x w' => x = .returned (.agg (fa bw kw be ke { F with errs := e })) ∧ Below w.heap.size w w' := by
  have T0 := Two.start w bw kw be ke F Try.zeroCells62
  go_enter Try.func71, Try.ntmps71
  go_upto_region 1 with (fail)
  generalize (w.alloc (.cells (fa bw kw be ke F) 62)).alloc (.cells Try.zeroCells62 62) = W at *
  obtain ⟨x0, x1, x2, x3, x4, x5, x6, x7, x8, x73, x74, x75, x76, xf⟩ := T0.box.cells
  have T1 := T0.alter (T0.box.setErrs e)
  go_wp2_with (first | (rw [q.out]; refine load_f rfl (.tmp 2) rfl rfl T1.box ?_) | (refine store_f rfl (.tmp 4) (.tmp 10) rfl rfl rfl T1.res zero77 ?_; intro w1 hb1 hk1 hs1))
  refine bodyPost_ret (retF rfl _ _ (w.heap.size + 1) rfl hb1) rfl ⟨rfl, ?_⟩
  exact below_row T1.below hk1 (Nat.le_succ _)
end Rcfi
end Go.Proofs.Ytfghlfolejpjjaa

/- The reference's flash: wrong, Status, Reset. -/
namespace Go.Proofs.Ytfghlfolejpjjaa
open Go.RowKit
set_option linter.unusedVariables false
attribute [local go_sem] max2_int min2_int max_two min_two
namespace Rcfi
open Rfl
theorem one_box (w : World) (bw kw be ke : Nat) (F : RF) : Fbox (w.alloc (.cells (fa bw kw be ke F) 62)) w.heap.size bw kw be ke F := heap_alloc_new w _
set_option maxHeartbeats 1000000 in
set_option maxRecDepth 100000 in
theorem wrong_c {w : World} {bw kw be ke : Nat} {F : RF} {at_ n : Int} (q : Hid (Nr.wrong F.c at_ (F.c.words.length : Int) = n)) :
    Calls Try.prog 65 #[.agg (fa bw kw be ke F), .int .i64 at_] w fun x w' => x = .returned (.int .i64 n) ∧ Below w.heap.size w w' := by
  have hb := one_box w bw kw be ke F
  have B := alloc1_below w (.cells (fa bw kw be ke F) 62)
  by_cases ho : F.c.off = true
  · have E := Lib.hid (show (4 : Int) = n by rw [← q.out]; exact (if_pos ho).symm)
    clear q
    go_enter Try.func65, Try.ntmps65
    go_upto_region 1 with (fail)
    generalize w.alloc (.cells (fa bw kw be ke F) 62) = W at *
    obtain ⟨x0, x1, x2, x3, x4, x5, x6, x7, x8, x73, x74, x75, x76, xf⟩ := hb.cells
    go_wp2
    go_ret
    exact ⟨by rw [E.out]; rfl, B⟩
  · have ho' : F.c.off = false := by simpa using ho
    clear ho
    by_cases h1 : at_ < 0
    · have E := Lib.hid (show (3 : Int) = n by rw [← q.out]; unfold Nr.wrong; rw [if_neg (by simp [ho']), if_pos (.inl h1)])
      clear q
      go_enter Try.func65, Try.ntmps65
      go_upto_region 1 with (fail)
      generalize w.alloc (.cells (fa bw kw be ke F) 62) = W at *
      obtain ⟨x0, x1, x2, x3, x4, x5, x6, x7, x8, x73, x74, x75, x76, xf⟩ := hb.cells
      go_wp2
      go_ret
      exact ⟨by rw [E.out]; rfl, B⟩
    · by_cases h2 : (F.c.words.length : Int) ≤ at_
      · have E := Lib.hid (show (3 : Int) = n by rw [← q.out]; unfold Nr.wrong; rw [if_neg (by simp [ho']), if_pos (.inr h2)])
        clear q
        go_enter Try.func65, Try.ntmps65
        go_upto_region 1 with (fail)
        generalize w.alloc (.cells (fa bw kw be ke F) 62) = W at *
        obtain ⟨x0, x1, x2, x3, x4, x5, x6, x7, x8, x73, x74, x75, x76, xf⟩ := hb.cells
        go_wp2
        go_ret
        exact ⟨by rw [E.out]; rfl, B⟩
      · have E := Lib.hid (show (0 : Int) = n by rw [← q.out]; unfold Nr.wrong; rw [if_neg (by simp [ho']), if_neg (by omega)])
        clear q
        go_enter Try.func65, Try.ntmps65
        go_upto_region 1 with (fail)
        generalize w.alloc (.cells (fa bw kw be ke F) 62) = W at *
        obtain ⟨x0, x1, x2, x3, x4, x5, x6, x7, x8, x73, x74, x75, x76, xf⟩ := hb.cells
        go_wp2
        go_ret
        exact ⟨by rw [E.out]; rfl, B⟩
set_option maxHeartbeats 1000000 in
set_option maxRecDepth 100000 in
theorem status_c {w : World} {bw kw be ke : Nat} {F : RF} (he : 0 ≤ F.errs ∧ F.errs ≤ 50) {v : Int} (q : Hid ((if F.job = 0 then F.errs + 128 else F.errs) = v)) :
    Calls Try.prog 63 #[.agg (fa bw kw be ke F)] w fun x w' => x = .returned (.int .u32 v) ∧ Below w.heap.size w w' := by
  have hb := one_box w bw kw be ke F
  have B := alloc1_below w (.cells (fa bw kw be ke F) 62)
  have hw : IntKind.u32.wrap (F.errs + 128) = F.errs + 128 := by rw [IntKind.wrap_u32]; omega
  by_cases hj : F.job = 0
  · have E := Lib.hid (show F.errs + 128 = v by rw [← q.out, if_pos hj])
    clear q
    go_enter Try.func63, Try.ntmps63
    go_upto_region 1 with (fail)
    generalize w.alloc (.cells (fa bw kw be ke F) 62) = W at *
    obtain ⟨x0, x1, x2, x3, x4, x5, x6, x7, x8, x73, x74, x75, x76, xf⟩ := hb.cells
    go_wp2
    go_ret
    exact ⟨by rw [E.out]; rfl, B⟩
  · have E := Lib.hid (show F.errs = v by rw [← q.out, if_neg hj])
    have hj2 : (F.job == 0) = false := by simpa using hj
    clear q hj hw
    go_enter Try.func63, Try.ntmps63
    go_upto_region 1 with (fail)
    generalize w.alloc (.cells (fa bw kw be ke F) 62) = W at *
    obtain ⟨x0, x1, x2, x3, x4, x5, x6, x7, x8, x73, x74, x75, x76, xf⟩ := hb.cells
    go_wp2
    go_ret
    exact ⟨by rw [E.out]; rfl, B⟩
end Rcfi
end Go.Proofs.Ytfghlfolejpjjaa

/- The reference's flash: what belongs to a command. -/
namespace Go.Proofs.Ytfghlfolejpjjaa
open Go.RowKit
set_option linter.unusedVariables false
attribute [local go_sem] max2_int min2_int max_two min_two
namespace Rfl
def withE (F : RF) (b : Int) : RF := { F with errs := bits .or .u32 F.errs b }
def calm (F : RF) : RF := { F with wait := 0, mode := 1 }
def lockAt (F : RF) (i : Nat) (b : Bool) : RF := { F with locks := fun j => if j = i then b else F.locks j }
def waited (F : RF) (m : Nat) (v : Int) : RF :=
  if F.wait = 64 then (if F.locks (m / 64) then withE (calm F) 18 else { calm F with job := 64, at_ := m, v := v, left := 3 })
  else if F.wait = 32 then (if v % 256 = 208 then (if F.locks (m / 64) then withE (calm F) 34 else { calm F with job := 32, at_ := (m : Int) / 64, left := 20 }) else withE (calm F) 48)
  else if v % 256 = 1 then lockAt (calm F) (m / 64) true else if v % 256 = 208 then lockAt (calm F) (m / 64) false else withE (calm F) 48
end Rfl
namespace Rcfi
open Rfl
theorem Two.calm {w W : World} {bw kw be ke : Nat} {F : RF} {Z : Array Value} (T : Two w W bw kw be ke F Z) : Two w ((W.setCell ⟨w.heap.size, 7, none⟩ (.int .i64 0)).setCell ⟨w.heap.size, 6, none⟩ (.int .i64 1)) bw kw be ke (calm F) Z :=
  (T.alter (T.box.setWait 0)).alter ((T.alter (T.box.setWait 0)).box.setMode 1)
theorem Two.then {w W W' : World} {bw kw be ke : Nat} {F : RF} {Z : Array Value} (T : Two w W bw kw be ke F Z) (b : Below W.heap.size W W') : Two w W' bw kw be ke F Z :=
  ⟨T.box.below b, (b.block _ (Array.getElem?_eq_some_iff.1 T.res).1).trans T.res, Below.then T.below b⟩
set_option maxHeartbeats 1000000 in
set_option maxRecDepth 100000 in
theorem waitedA1_c {w : World} {bw kw be ke m : Nat} {F F' : RF} {v : Int} {lk : Bool} (he : 0 ≤ F.errs ∧ F.errs < 4294967296) (hm : m < 4096) (hv : 0 ≤ v ∧ v < 4294967296) (hl : F.locks (m / 64) = lk) (hw : F.wait = 64) (h2 : lk = true) (q : Hid (withE (calm F) 18 = F')) :
    Calls Try.prog 70 #[.agg (fa bw kw be ke F), .int .i64 m, .int .u32 v] w fun x w' => x = .returned (.agg (fa bw kw be ke F')) ∧ Below w.heap.size w w' := by
  have T0 := Two.start w bw kw be ke F Try.zeroCells62
  have hmi : m / 64 < 64 := by omega
  have hmi2 : (m : Int) / 64 < 64 := by omega
  have hmi3 : 0 ≤ (m : Int) / 64 := by omega
  go_enter Try.func70, Try.ntmps70
  go_upto_region 1 with (fail)
  generalize (w.alloc (.cells (fa bw kw be ke F) 62)).alloc (.cells Try.zeroCells62 62) = W at *
  obtain ⟨x0, x1, x2, x3, x4, x5, x6, x7, x8, x73, x74, x75, x76, xf⟩ := T0.box.cells
  go_upto_region 4 with (fail)
  have T1 := T0.calm
  clear x0 x1 x2 x3 x4 x5 x6 x7 x8 x73 x74 x75 x76 xf T0
  generalize (W.setCell ⟨w.heap.size, 7, none⟩ (.int .i64 0)).setCell ⟨w.heap.size, 6, none⟩ (.int .i64 1) = W1 at *
  obtain ⟨x0, x1, x2, x3, x4, x5, x6, x7, x8, x73, x74, x75, x76, xf⟩ := T1.box.cells
  have xl := T1.box.lock hmi
  rw [show (calm F).locks (m / 64) = _ from hl] at xl
  go_wp2_with (first | (refine load_f rfl _ rfl rfl T1.box ?_) | (go_at_call 71; refine (with_c (F := calm F) (b := 18) he (by decide) (Lib.hid rfl)).mono ?_; rintro x w2 ⟨rfl, b2⟩; have T2 := T1.then b2) | (refine store_f rfl _ _ rfl rfl rfl T2.res zero77 ?_; intro w3 hb1 hk1 hs1))
  refine bodyPost_ret (retF rfl _ _ (w.heap.size + 1) rfl hb1) rfl ⟨?_, below_row T2.below hk1 (Nat.le_succ _)⟩
  rw [← q.out]
  try rfl
set_option maxHeartbeats 1000000 in
set_option maxRecDepth 100000 in
theorem waitedA2_c {w : World} {bw kw be ke m : Nat} {F F' : RF} {v : Int} {lk : Bool} (he : 0 ≤ F.errs ∧ F.errs < 4294967296) (hm : m < 4096) (hv : 0 ≤ v ∧ v < 4294967296) (hl : F.locks (m / 64) = lk) (hw : F.wait = 64) (h2 : lk = false) (q : Hid ({ calm F with job := 64, at_ := m, v := v, left := 3 } = F')) :
    Calls Try.prog 70 #[.agg (fa bw kw be ke F), .int .i64 m, .int .u32 v] w fun x w' => x = .returned (.agg (fa bw kw be ke F')) ∧ Below w.heap.size w w' := by
  have T0 := Two.start w bw kw be ke F Try.zeroCells62
  have hmi : m / 64 < 64 := by omega
  have hmi2 : (m : Int) / 64 < 64 := by omega
  have hmi3 : 0 ≤ (m : Int) / 64 := by omega
  go_enter Try.func70, Try.ntmps70
  go_upto_region 1 with (fail)
  generalize (w.alloc (.cells (fa bw kw be ke F) 62)).alloc (.cells Try.zeroCells62 62) = W at *
  obtain ⟨x0, x1, x2, x3, x4, x5, x6, x7, x8, x73, x74, x75, x76, xf⟩ := T0.box.cells
  go_upto_region 4 with (fail)
  have T1 := T0.calm
  clear x0 x1 x2 x3 x4 x5 x6 x7 x8 x73 x74 x75 x76 xf T0
  generalize (W.setCell ⟨w.heap.size, 7, none⟩ (.int .i64 0)).setCell ⟨w.heap.size, 6, none⟩ (.int .i64 1) = W1 at *
  obtain ⟨x0, x1, x2, x3, x4, x5, x6, x7, x8, x73, x74, x75, x76, xf⟩ := T1.box.cells
  have xl := T1.box.lock hmi
  rw [show (calm F).locks (m / 64) = _ from hl] at xl
  have T2 := T1.alter (T1.box.setJob 64)
  have T3 := T2.alter (T2.box.setAt m)
  have T4 := T3.alter (T3.box.setV v)
  have T5 := T4.alter (T4.box.setLeft 3)
  clear T2 T3 T4
  go_upto_region 26 with (fail)
  clear x0 x1 x2 x3 x4 x5 x6 x7 x8 x73 x74 x75 x76 xf
  generalize (((W1.setCell ⟨w.heap.size, 73, none⟩ (.int .i64 64)).setCell ⟨w.heap.size, 74, none⟩ (.int .i64 m)).setCell ⟨w.heap.size, 75, none⟩ (.int .u32 v)).setCell ⟨w.heap.size, 76, none⟩ (.int .i64 3) = W5 at *
  go_wp2_with (first | (refine load_f rfl _ rfl rfl T5.box ?_) | (refine store_f rfl _ _ rfl rfl rfl T5.res zero77 ?_; intro w3 hb1 hk1 hs1))
  refine bodyPost_ret (retF rfl _ _ (w.heap.size + 1) rfl hb1) rfl ⟨?_, below_row T5.below hk1 (Nat.le_succ _)⟩
  rw [← q.out]
  try rfl
set_option maxHeartbeats 1000000 in
set_option maxRecDepth 100000 in
theorem waitedB1_c {w : World} {bw kw be ke m : Nat} {F F' : RF} {v : Int} {lk : Bool} (he : 0 ≤ F.errs ∧ F.errs < 4294967296) (hm : m < 4096) (hv : 0 ≤ v ∧ v < 4294967296) (hl : F.locks (m / 64) = lk) (hw : F.wait = 32) (h3 : (v % 256 == 208) = false) (h4 : (v % 256 != 208) = true) (q : Hid (withE (calm F) 48 = F')) :
    Calls Try.prog 70 #[.agg (fa bw kw be ke F), .int .i64 m, .int .u32 v] w fun x w' => x = .returned (.agg (fa bw kw be ke F')) ∧ Below w.heap.size w w' := by
  have T0 := Two.start w bw kw be ke F Try.zeroCells62
  have hmi : m / 64 < 64 := by omega
  have hmi2 : (m : Int) / 64 < 64 := by omega
  have hmi3 : 0 ≤ (m : Int) / 64 := by omega
  go_enter Try.func70, Try.ntmps70
  go_upto_region 1 with (fail)
  generalize (w.alloc (.cells (fa bw kw be ke F) 62)).alloc (.cells Try.zeroCells62 62) = W at *
  obtain ⟨x0, x1, x2, x3, x4, x5, x6, x7, x8, x73, x74, x75, x76, xf⟩ := T0.box.cells
  go_upto_region 4 with (fail)
  have T1 := T0.calm
  clear x0 x1 x2 x3 x4 x5 x6 x7 x8 x73 x74 x75 x76 xf T0
  generalize (W.setCell ⟨w.heap.size, 7, none⟩ (.int .i64 0)).setCell ⟨w.heap.size, 6, none⟩ (.int .i64 1) = W1 at *
  obtain ⟨x0, x1, x2, x3, x4, x5, x6, x7, x8, x73, x74, x75, x76, xf⟩ := T1.box.cells
  have xl := T1.box.lock hmi
  rw [show (calm F).locks (m / 64) = _ from hl] at xl
  go_wp2_with (first | (refine load_f rfl _ rfl rfl T1.box ?_) | (go_at_call 71; refine (with_c (F := calm F) (b := 48) he (by decide) (Lib.hid rfl)).mono ?_; rintro x w2 ⟨rfl, b2⟩; have T2 := T1.then b2) | (refine store_f rfl _ _ rfl rfl rfl T2.res zero77 ?_; intro w3 hb1 hk1 hs1))
  refine bodyPost_ret (retF rfl _ _ (w.heap.size + 1) rfl hb1) rfl ⟨?_, below_row T2.below hk1 (Nat.le_succ _)⟩
  rw [← q.out]
  try rfl
set_option maxHeartbeats 1000000 in
set_option maxRecDepth 100000 in
theorem waitedB2_c {w : World} {bw kw be ke m : Nat} {F F' : RF} {v : Int} {lk : Bool} (he : 0 ≤ F.errs ∧ F.errs < 4294967296) (hm : m < 4096) (hv : 0 ≤ v ∧ v < 4294967296) (hl : F.locks (m / 64) = lk) (hw : F.wait = 32) (h3 : v % 256 = 208) (h2 : lk = true) (q : Hid (withE (calm F) 34 = F')) :
    Calls Try.prog 70 #[.agg (fa bw kw be ke F), .int .i64 m, .int .u32 v] w fun x w' => x = .returned (.agg (fa bw kw be ke F')) ∧ Below w.heap.size w w' := by
  have T0 := Two.start w bw kw be ke F Try.zeroCells62
  have hmi : m / 64 < 64 := by omega
  have hmi2 : (m : Int) / 64 < 64 := by omega
  have hmi3 : 0 ≤ (m : Int) / 64 := by omega
  go_enter Try.func70, Try.ntmps70
  go_upto_region 1 with (fail)
  generalize (w.alloc (.cells (fa bw kw be ke F) 62)).alloc (.cells Try.zeroCells62 62) = W at *
  obtain ⟨x0, x1, x2, x3, x4, x5, x6, x7, x8, x73, x74, x75, x76, xf⟩ := T0.box.cells
  go_upto_region 4 with (fail)
  have T1 := T0.calm
  clear x0 x1 x2 x3 x4 x5 x6 x7 x8 x73 x74 x75 x76 xf T0
  generalize (W.setCell ⟨w.heap.size, 7, none⟩ (.int .i64 0)).setCell ⟨w.heap.size, 6, none⟩ (.int .i64 1) = W1 at *
  obtain ⟨x0, x1, x2, x3, x4, x5, x6, x7, x8, x73, x74, x75, x76, xf⟩ := T1.box.cells
  have xl := T1.box.lock hmi
  rw [show (calm F).locks (m / 64) = _ from hl] at xl
  go_wp2_with (first | (refine load_f rfl _ rfl rfl T1.box ?_) | (go_at_call 71; refine (with_c (F := calm F) (b := 34) he (by decide) (Lib.hid rfl)).mono ?_; rintro x w2 ⟨rfl, b2⟩; have T2 := T1.then b2) | (refine store_f rfl _ _ rfl rfl rfl T2.res zero77 ?_; intro w3 hb1 hk1 hs1))
  refine bodyPost_ret (retF rfl _ _ (w.heap.size + 1) rfl hb1) rfl ⟨?_, below_row T2.below hk1 (Nat.le_succ _)⟩
  rw [← q.out]
  try rfl
set_option maxHeartbeats 1000000 in
set_option maxRecDepth 100000 in
theorem waitedB3_c {w : World} {bw kw be ke m : Nat} {F F' : RF} {v : Int} {lk : Bool} (he : 0 ≤ F.errs ∧ F.errs < 4294967296) (hm : m < 4096) (hv : 0 ≤ v ∧ v < 4294967296) (hl : F.locks (m / 64) = lk) (hw : F.wait = 32) (h3 : v % 256 = 208) (h2 : lk = false) (q : Hid ({ calm F with job := 32, at_ := (m : Int) / 64, left := 20 } = F')) :
    Calls Try.prog 70 #[.agg (fa bw kw be ke F), .int .i64 m, .int .u32 v] w fun x w' => x = .returned (.agg (fa bw kw be ke F')) ∧ Below w.heap.size w w' := by
  have T0 := Two.start w bw kw be ke F Try.zeroCells62
  have hmi : m / 64 < 64 := by omega
  have hmi2 : (m : Int) / 64 < 64 := by omega
  have hmi3 : 0 ≤ (m : Int) / 64 := by omega
  go_enter Try.func70, Try.ntmps70
  go_upto_region 1 with (fail)
  generalize (w.alloc (.cells (fa bw kw be ke F) 62)).alloc (.cells Try.zeroCells62 62) = W at *
  obtain ⟨x0, x1, x2, x3, x4, x5, x6, x7, x8, x73, x74, x75, x76, xf⟩ := T0.box.cells
  go_upto_region 4 with (fail)
  have T1 := T0.calm
  clear x0 x1 x2 x3 x4 x5 x6 x7 x8 x73 x74 x75 x76 xf T0
  generalize (W.setCell ⟨w.heap.size, 7, none⟩ (.int .i64 0)).setCell ⟨w.heap.size, 6, none⟩ (.int .i64 1) = W1 at *
  obtain ⟨x0, x1, x2, x3, x4, x5, x6, x7, x8, x73, x74, x75, x76, xf⟩ := T1.box.cells
  have xl := T1.box.lock hmi
  rw [show (calm F).locks (m / 64) = _ from hl] at xl
  have T2 := T1.alter (T1.box.setJob 32)
  have T3 := T2.alter (T2.box.setAt ((m : Int) / 64))
  have T4 := T3.alter (T3.box.setLeft 20)
  clear T2 T3
  go_upto_region 26 with (fail)
  clear x0 x1 x2 x3 x4 x5 x6 x7 x8 x73 x74 x75 x76 xf
  generalize ((W1.setCell ⟨w.heap.size, 73, none⟩ (.int .i64 32)).setCell ⟨w.heap.size, 74, none⟩ (.int .i64 ((m : Int) / 64))).setCell ⟨w.heap.size, 76, none⟩ (.int .i64 20) = W5 at *
  go_wp2_with (first | (refine load_f rfl _ rfl rfl T4.box ?_) | (refine store_f rfl _ _ rfl rfl rfl T4.res zero77 ?_; intro w3 hb1 hk1 hs1))
  refine bodyPost_ret (retF rfl _ _ (w.heap.size + 1) rfl hb1) rfl ⟨?_, below_row T4.below hk1 (Nat.le_succ _)⟩
  rw [← q.out]
  try rfl
set_option maxHeartbeats 1000000 in
set_option maxRecDepth 100000 in
theorem waitedC1_c {w : World} {bw kw be ke m : Nat} {F F' : RF} {v : Int} {lk : Bool} (he : 0 ≤ F.errs ∧ F.errs < 4294967296) (hm : m < 4096) (hv : 0 ≤ v ∧ v < 4294967296) (hl : F.locks (m / 64) = lk) (hw : F.wait = 96) (h3 : v % 256 = 1) (q : Hid (lockAt (calm F) (m / 64) true = F')) :
    Calls Try.prog 70 #[.agg (fa bw kw be ke F), .int .i64 m, .int .u32 v] w fun x w' => x = .returned (.agg (fa bw kw be ke F')) ∧ Below w.heap.size w w' := by
  have T0 := Two.start w bw kw be ke F Try.zeroCells62
  have hmi : m / 64 < 64 := by omega
  have hmi2 : (m : Int) / 64 < 64 := by omega
  have hmi3 : 0 ≤ (m : Int) / 64 := by omega
  go_enter Try.func70, Try.ntmps70
  go_upto_region 1 with (fail)
  generalize (w.alloc (.cells (fa bw kw be ke F) 62)).alloc (.cells Try.zeroCells62 62) = W at *
  obtain ⟨x0, x1, x2, x3, x4, x5, x6, x7, x8, x73, x74, x75, x76, xf⟩ := T0.box.cells
  go_upto_region 4 with (fail)
  have T1 := T0.calm
  clear x0 x1 x2 x3 x4 x5 x6 x7 x8 x73 x74 x75 x76 xf T0
  generalize (W.setCell ⟨w.heap.size, 7, none⟩ (.int .i64 0)).setCell ⟨w.heap.size, 6, none⟩ (.int .i64 1) = W1 at *
  obtain ⟨x0, x1, x2, x3, x4, x5, x6, x7, x8, x73, x74, x75, x76, xf⟩ := T1.box.cells
  have xl := T1.box.lock hmi
  rw [show (calm F).locks (m / 64) = _ from hl] at xl
  have T2 := T1.alter (T1.box.setLock hmi true)
  go_wp2_with (first | (refine load_f rfl _ rfl rfl T2.box ?_) | (refine store_f rfl _ _ rfl rfl rfl T2.res zero77 ?_; intro w3 hb1 hk1 hs1))
  refine bodyPost_ret (retF rfl _ _ (w.heap.size + 1) rfl hb1) rfl ⟨?_, below_row T2.below hk1 (Nat.le_succ _)⟩
  rw [← q.out]
  try rfl
set_option maxHeartbeats 1000000 in
set_option maxRecDepth 100000 in
theorem waitedC2_c {w : World} {bw kw be ke m : Nat} {F F' : RF} {v : Int} {lk : Bool} (he : 0 ≤ F.errs ∧ F.errs < 4294967296) (hm : m < 4096) (hv : 0 ≤ v ∧ v < 4294967296) (hl : F.locks (m / 64) = lk) (hw : F.wait = 96) (h3 : v % 256 = 208) (q : Hid (lockAt (calm F) (m / 64) false = F')) :
    Calls Try.prog 70 #[.agg (fa bw kw be ke F), .int .i64 m, .int .u32 v] w fun x w' => x = .returned (.agg (fa bw kw be ke F')) ∧ Below w.heap.size w w' := by
  have T0 := Two.start w bw kw be ke F Try.zeroCells62
  have hmi : m / 64 < 64 := by omega
  have hmi2 : (m : Int) / 64 < 64 := by omega
  have hmi3 : 0 ≤ (m : Int) / 64 := by omega
  go_enter Try.func70, Try.ntmps70
  go_upto_region 1 with (fail)
  generalize (w.alloc (.cells (fa bw kw be ke F) 62)).alloc (.cells Try.zeroCells62 62) = W at *
  obtain ⟨x0, x1, x2, x3, x4, x5, x6, x7, x8, x73, x74, x75, x76, xf⟩ := T0.box.cells
  go_upto_region 4 with (fail)
  have T1 := T0.calm
  clear x0 x1 x2 x3 x4 x5 x6 x7 x8 x73 x74 x75 x76 xf T0
  generalize (W.setCell ⟨w.heap.size, 7, none⟩ (.int .i64 0)).setCell ⟨w.heap.size, 6, none⟩ (.int .i64 1) = W1 at *
  obtain ⟨x0, x1, x2, x3, x4, x5, x6, x7, x8, x73, x74, x75, x76, xf⟩ := T1.box.cells
  have xl := T1.box.lock hmi
  rw [show (calm F).locks (m / 64) = _ from hl] at xl
  have T2 := T1.alter (T1.box.setLock hmi false)
  go_wp2_with (first | (refine load_f rfl _ rfl rfl T2.box ?_) | (refine store_f rfl _ _ rfl rfl rfl T2.res zero77 ?_; intro w3 hb1 hk1 hs1))
  refine bodyPost_ret (retF rfl _ _ (w.heap.size + 1) rfl hb1) rfl ⟨?_, below_row T2.below hk1 (Nat.le_succ _)⟩
  rw [← q.out]
  try rfl
set_option maxHeartbeats 1000000 in
set_option maxRecDepth 100000 in
theorem waitedC3_c {w : World} {bw kw be ke m : Nat} {F F' : RF} {v : Int} {lk : Bool} (he : 0 ≤ F.errs ∧ F.errs < 4294967296) (hm : m < 4096) (hv : 0 ≤ v ∧ v < 4294967296) (hl : F.locks (m / 64) = lk) (hw : F.wait = 96) (h3 : (v % 256 == 208) = false) (h4 : (v % 256 == 1) = false) (q : Hid (withE (calm F) 48 = F')) :
    Calls Try.prog 70 #[.agg (fa bw kw be ke F), .int .i64 m, .int .u32 v] w fun x w' => x = .returned (.agg (fa bw kw be ke F')) ∧ Below w.heap.size w w' := by
  have T0 := Two.start w bw kw be ke F Try.zeroCells62
  have hmi : m / 64 < 64 := by omega
  have hmi2 : (m : Int) / 64 < 64 := by omega
  have hmi3 : 0 ≤ (m : Int) / 64 := by omega
  go_enter Try.func70, Try.ntmps70
  go_upto_region 1 with (fail)
  generalize (w.alloc (.cells (fa bw kw be ke F) 62)).alloc (.cells Try.zeroCells62 62) = W at *
  obtain ⟨x0, x1, x2, x3, x4, x5, x6, x7, x8, x73, x74, x75, x76, xf⟩ := T0.box.cells
  go_upto_region 4 with (fail)
  have T1 := T0.calm
  clear x0 x1 x2 x3 x4 x5 x6 x7 x8 x73 x74 x75 x76 xf T0
  generalize (W.setCell ⟨w.heap.size, 7, none⟩ (.int .i64 0)).setCell ⟨w.heap.size, 6, none⟩ (.int .i64 1) = W1 at *
  obtain ⟨x0, x1, x2, x3, x4, x5, x6, x7, x8, x73, x74, x75, x76, xf⟩ := T1.box.cells
  have xl := T1.box.lock hmi
  rw [show (calm F).locks (m / 64) = _ from hl] at xl
  go_wp2_with (first | (refine load_f rfl _ rfl rfl T1.box ?_) | (go_at_call 71; refine (with_c (F := calm F) (b := 48) he (by decide) (Lib.hid rfl)).mono ?_; rintro x w2 ⟨rfl, b2⟩; have T2 := T1.then b2) | (refine store_f rfl _ _ rfl rfl rfl T2.res zero77 ?_; intro w3 hb1 hk1 hs1))
  refine bodyPost_ret (retF rfl _ _ (w.heap.size + 1) rfl hb1) rfl ⟨?_, below_row T2.below hk1 (Nat.le_succ _)⟩
  rw [← q.out]
  try rfl
end Rcfi
end Go.Proofs.Ytfghlfolejpjjaa

/- Contract of decode.rows. -/
import Derived.Test.YtpdemjdjgehpgaaDsh
namespace Go.Proofs.Ytpdemjdjgehpgaa
open Go.RowKit Dc
set_option linter.unusedVariables false
namespace Dec
def flat2 : List (Int × Nat) → List Value
  | [] => []
  | p :: l => .int .u32 p.1 :: .int .u8 p.2 :: flat2 l
theorem flat2_get : ∀ (l : List (Int × Nat)) (i : Nat), i < l.length → (flat2 l)[i * 2]? = some (.int .u32 (l.getD i (0, 0)).1) ∧ (flat2 l)[i * 2 + 1]? = some (.int .u8 (l.getD i (0, 0)).2)
  | [], i, h => absurd h (by simp)
  | p :: l, 0, _ => ⟨rfl, rfl⟩
  | p :: l, i + 1, h => by
    have ih := flat2_get l i (by simpa using h)
    simp only [flat2]
    refine ⟨?_, ?_⟩
    · rw [show (i + 1) * 2 = i * 2 + 1 + 1 by omega]; simpa using ih.1
    · rw [show (i + 1) * 2 + 1 = (i * 2 + 1) + 1 + 1 by omega]; simpa using ih.2
/-- The rows in memory. -/
def Rws (w : World) (g : Nat) : Prop := ∀ i, i < 69 → w.cell? ⟨g, i * 2, none⟩ = some (.int .u32 (row i).1) ∧ w.cell? ⟨g, i * 2 + 1, none⟩ = some (.int .u8 (row i).2)
theorem Rws.below {w w' : World} {g : Nat} (h : Rws w g) (hb : Below w.heap.size w w') : Rws w' g := fun i hi => ⟨below_cell hb (h i hi).1, below_cell hb (h i hi).2⟩
theorem rws_new {w : World} (t : TypeId) : Rws (w.alloc (.cells (flat2 rows).toArray t)) w.heap.size := by
  have h := heap_alloc_new w (.cells (flat2 rows).toArray t)
  intro i hi
  obtain ⟨e0, e1⟩ := flat2_get rows i (by rw [rows_len]; exact hi)
  simp only [World.cell?, h]
  exact ⟨by simpa [row] using e0, by simpa [row] using e1⟩
theorem wp_run {P : Program} {o : Oper} {a : Act} {w : World} {next : Act → World → Prop} {Q : Exit → Act → World → Prop} {v : Value} {w' : World} (h : (execOp a.eval o).run P w = .ok (.value v) w') (k : next (a.put o.dst v) w') : Oper.wp P o a w next Q := by unfold Oper.wp; rw [h]; exact k
set_option maxHeartbeats 8000000 in
set_option maxRecDepth 100000 in
theorem rows_c (w : World) : Calls Try.prog 18 #[] w fun e w' => ∃ g, e = .returned (.slice (some ⟨g, 0, none⟩) 69 69) ∧ Rws w' g ∧ Below w.heap.size w w' := by
  go_enter Try.func18, Try.ntmps18
  go_wp2
  refine wp_run (v := .slice (some ⟨w.heap.size, 0, none⟩) 69 69) (w' := w.alloc (.cells (flat2 rows).toArray 48)) (by kernel_rfl) ?_
  go_wp2
  go_ret
  exact ⟨w.heap.size, rfl, rws_new _, below_al (Below.refl _ _) _⟩
end Dec
end Go.Proofs.Ytpdemjdjgehpgaa

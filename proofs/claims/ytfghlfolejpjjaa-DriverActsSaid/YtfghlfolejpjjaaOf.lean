/- Contracts of package nor: Of, New, Words. -/
import Derived.Test.YtfghlfolejpjjaaRep
import Derived.Test.YtfghlfolejpjjaaNor3
import Derived.Deep.OwnRows
namespace Go.Proofs.Ytfghlfolejpjjaa
open Go.RowKit
set_option linter.unusedVariables false
attribute [local go_sem] max2_int min2_int max_two min_two
namespace Nor
theorem infoI : (Try.prog.info? 3).map (fun i => (i.zero, i.size, i.bytes)) = some (some (.int .i64 0), 1, 8) := by kernel_rfl
theorem underI : Try.prog.underlying 56 = some (.slice 3) := by kernel_rfl

theorem of_ok {n : Nat} {zs : List Int} {endure : Int} (h1 : 1 ≤ n) (h2 : n ≤ 64) (hl : zs.length = 64 * n) (he : 0 ≤ endure) (hr : ∀ i, 0 ≤ zs.getD i 0 ∧ zs.getD i 0 < 4294967296) (he2 : endure ≤ 9223372036854775807) : (Nr.of_ zs endure).ok := by
  have e : zs.length / 64 = n := by omega
  refine ⟨by simp [Nr.of_, hl], by simp [Nr.of_, e]; omega, by simp [Nr.of_, e]; omega, fun i => (hr i).1, fun i => (hr i).2, fun i => ?_, fun i _ => ?_, he, he2, by simp [Nr.of_], by simp [Nr.of_], by simp [Nr.of_], by simp [Nr.of_]⟩
  · simp only [Nr.of_, Nr.getD_replicate]; split <;> decide
  · simp only [Nr.of_, Nr.getD_replicate]; split <;> exact he
/-- A struct laid over words and a wear of zeros is a chip. -/
theorem chip_made {W : World} {bw be k n : Nat} {zs : List Int} {endure : Int} (h1 : 1 ≤ n) (h2 : n ≤ 64) (hl : zs.length = 64 * n) (he : 0 ≤ endure) (hr : ∀ i, 0 ≤ zs.getD i 0 ∧ zs.getD i 0 < 4294967296) (he2 : endure ≤ 9223372036854775807)
    (hw : Row W bw zs) (hk : 64 * n ≤ k) (hb : W.heap[be]? = some (.cells (madeCells #[.int .i64 0] n) 3 (0, 0))) :
    Chip (W.alloc (.cells #[.slice (some ⟨bw, 0, none⟩) (64 * n) k, .slice (some ⟨be, 0, none⟩) n n, .int .i64 endure, .int .i64 0, .int .u32 0, .bool false] 80)) W.heap.size bw be (Nr.of_ zs endure) := by
  have l1 := hw.lt
  have l2 : be < W.heap.size := (Array.getElem?_eq_some_iff.1 hb).1
  have e : zs.length / 64 = n := by omega
  have hne : bw ≠ be := by
    rintro rfl
    obtain ⟨cur, e2, hc⟩ := hw
    rw [e2] at hb
    cases hb
  have K := (Keep.refl (fun _ => False) W).alloc (.cells #[.slice (some ⟨bw, 0, none⟩) (64 * n) k, .slice (some ⟨be, 0, none⟩) n n, .int .i64 endure, .int .i64 0, .int .u32 0, .bool false] 80)
  refine ⟨of_ok h1 h2 hl he hr he2, by omega, by omega, hne, ⟨k, n, ?_, by simpa [Nr.of_, hl] using hk, by simp [Nr.of_, e]⟩, hw.keep K id, ⟨_, by rw [K.block be l2 id]; exact hb, fun i hi => ?_⟩⟩
  · rw [heap_alloc_new]; simp [Nr.of_, hl]
  · simp only [Nr.of_, e, List.length_replicate] at hi
    simp only [Nr.of_, e, Nr.getD_replicate, if_pos hi]
    simp [madeCells, hi, Nat.mod_one]

set_option maxHeartbeats 4000000 in
set_option maxRecDepth 100000 in
theorem of_c {w : World} {b off kap n : Nat} {zs : List Int} {endure : Int} (h1 : 1 ≤ n) (h2 : n ≤ 64) (hl : zs.length = 64 * n) (he : 0 ≤ endure) (hr : ∀ i, 0 ≤ zs.getD i 0 ∧ zs.getD i 0 < 4294967296)
    (he2 : endure ≤ 9223372036854775807) (hc : ∀ j, j < zs.length → w.cell? ⟨b, off + j, none⟩ = some (.int .u32 (zs.getD j 0))) :
    Calls Try.prog 60 #[.slice (some ⟨b, off, none⟩) zs.length kap, .int .i64 endure] w fun e w' => ∃ g bw be, e = .returned (.pointer (some ⟨g, 0, none⟩)) ∧
      Chip w' g bw be (Nr.of_ zs endure) ∧ w.heap.size ≤ g ∧ w.heap.size ≤ bw ∧ w.heap.size ≤ be ∧ Below w.heap.size w w' := by
  have HC := Lib.hid hc
  have HE := Lib.hid he2
  have hl2 : (zs.length : Int) = 64 * (n : Int) := by omega
  have hd : (zs.length : Int).tdiv 64 = n := by rw [hl2, Int.tdiv_eq_ediv_of_nonneg (by omega)]; omega
  have hm : (zs.length : Int).tmod 64 = 0 := by rw [hl2, Int.tmod_eq_emod_of_nonneg (by omega)]; omega
  have HR := Lib.hid hr
  have hmk := run_make_row' (P := Try.prog) 56 3 (.int .i64 0) 8 underI infoI rfl .i64 .i64 n (by omega) (by omega)
  have hcl : ∀ W : World, (∀ j, j < zs.length → W.cell? ⟨b, off + j, none⟩ = some (.int .u32 (zs.getD j 0))) → Calls Try.prog 42 #[.slice (some ⟨b, off, none⟩) (64 * n) kap] W fun e w' => ∃ a kap, e = .returned (.slice (some ⟨a, 0, none⟩) (64 * n) kap) ∧ 64 * n ≤ kap ∧ W.heap.size ≤ a ∧ Row w' a zs ∧ Below W.heap.size W w' := by
    intro W hW
    have := Sl.clone_c (c := kap) (by omega) hW
    rw [hl] at this
    exact this
  have HCL := Lib.hid hcl
  have HC2 : Hid (∀ o, ∀ j, j < zs.length → (w.alloc o).cell? ⟨b, off + j, none⟩ = some (.int .u32 (zs.getD j 0))) := fun o j hj => Lib.cell?_alloc_some _ (hc j hj)
  clear hc he2 hr hcl
  go_enter Try.func60, Try.ntmps60
  go_wp2
  go_region_with (go_at_call 42; refine (HCL.out _ (by first | exact HC.out | exact HC2.out _)).mono ?_; rintro e w' ⟨a, ka, rfl, p1, p2, p3, p4⟩)
  all_goals (try go_wp2)
  all_goals go_ret
  · have q : Below w.heap.size w w' := ⟨p4.os, p4.tape, p4.output, p4.size, p4.block⟩
    have p2' : w.heap.size ≤ a := p2
    have sz := q.size
    have b1 := q.alloc sz (.cells (madeCells #[.int .i64 0] n) 3)
    have M := chip_made h1 h2 hl he HR.out HE.out (p3.keep ((Keep.refl (fun _ => False) w').alloc (.cells (madeCells #[.int .i64 0] n) 3)) id) p1 (heap_alloc_new w' _)
    have e : (w'.alloc (.cells (madeCells #[.int .i64 0] n) 3)).heap.size = w'.heap.size + 1 := by simp
    rw [e] at M
    exact ⟨_, _, _, rfl, M, by omega, p2', sz, b1.alloc (by omega) _⟩
  · have e : (w.alloc (.cells (madeCells #[.int .i64 0] n) 3)).heap.size = w.heap.size + 1 := by simp
    have q : Below (w.heap.size + 1) (w.alloc (.cells (madeCells #[.int .i64 0] n) 3)) w' := by rw [← e]; exact ⟨p4.os, p4.tape, p4.output, p4.size, p4.block⟩
    have p2' : w.heap.size + 1 ≤ a := by rw [← e]; exact p2
    have sz := q.size
    rw [e] at sz
    have b1 : Below w.heap.size w w' := ((Below.refl _ w).alloc (Nat.le_refl _) (.cells (madeCells #[.int .i64 0] n) 3)).trans ⟨q.os, q.tape, q.output, q.size, fun k hk => q.block k (by omega)⟩
    have M := chip_made h1 h2 hl he HR.out HE.out p3 p1 ((q.block w.heap.size (by omega)).trans (heap_alloc_new w _))
    exact ⟨_, _, _, rfl, M, by omega, by omega, Nat.le_refl _, b1.alloc (by omega) _⟩
end Nor
end Go.Proofs.Ytfghlfolejpjjaa

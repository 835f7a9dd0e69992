/- Rows of words in memory, and package slices at them. -/
import Derived.Test.YtfghlfolejpjjaaChip
import Derived.Test.YtfghlfolejpjjaaNor2
import Derived.Lib.Walk
import Derived.Lib.SliceRun
namespace Go.Proofs.Ytfghlfolejpjjaa
open Go.RowKit
set_option linter.unusedVariables false
/-- Words in a block. -/
def Row (w : World) (a : Nat) (zs : List Int) : Prop := ∃ cur, w.heap[a]? = some (.cells cur 34 (0, 0)) ∧ ∀ i, i < zs.length → cur[i]? = some (.int .u32 (zs.getD i 0))
theorem Row.cell {w : World} {a : Nat} {zs : List Int} (h : Row w a zs) {i : Nat} (hi : i < zs.length) : w.cell? ⟨a, i, none⟩ = some (.int .u32 (zs.getD i 0)) := by
  obtain ⟨cur, e, hc⟩ := h
  simp only [World.cell?, e]; exact hc i hi
theorem Row.lt {w : World} {a : Nat} {zs : List Int} (h : Row w a zs) : a < w.heap.size := by
  obtain ⟨cur, e, hc⟩ := h
  exact (Array.getElem?_eq_some_iff.1 e).1
theorem Row.keep {w w' : World} {S : Nat → Prop} {a : Nat} {zs : List Int} (h : Row w a zs) (hk : Keep S w w') (hn : ¬ S a) : Row w' a zs := by
  have l := h.lt
  obtain ⟨cur, e, hc⟩ := h
  exact ⟨cur, by rw [hk.block a l hn]; exact e, hc⟩
theorem Row.below {w w' : World} {a : Nat} {zs : List Int} (h : Row w a zs) (hb : Below w.heap.size w w') : Row w' a zs :=
  h.keep (S := fun _ => False) ⟨hb.os, hb.tape, hb.output, hb.size, fun k hk _ => hb.block k hk⟩ id
theorem Row.of_owns {w : World} {B : Nat} {v : Value} {zs : List Int} (h : w.ownsRow B 34 1 v zs.length (zs.map (Value.int .u32))) (hn : v ≠ .slice none 0 0) :
    ∃ a kap, v = .slice (some ⟨a, 0, none⟩) zs.length kap ∧ zs.length ≤ kap ∧ B ≤ a ∧ Row w a zs := by
  obtain ⟨h1, ⟨rfl, _⟩ | ⟨g, cap, cur, rfl, hb, hg, hc, hm, hs, ht⟩⟩ := h
  · exact absurd rfl hn
  · refine ⟨g, cap, rfl, hc, hb, cur, hg, fun i hi => ?_⟩
    have e : (cur.toList.take (zs.length * 1))[i]? = (zs.map (Value.int .u32))[i]? := by rw [ht]
    rw [List.getElem?_take, if_pos (by omega), List.getElem?_map, List.getElem?_eq_getElem hi] at e
    rw [← Array.getElem?_toList, e]
    simp [List.getD, hi]
namespace Sl
theorem info32 : (Try.prog.info? 34).map (fun i => (i.zero, i.size, i.bytes)) = some (some (.int .u32 0), 1, 4) := by kernel_rfl
theorem under32 : Try.prog.underlying 22 = some (.slice 34) := by kernel_rfl

set_option maxHeartbeats 2000000 in
theorem clone_c {w : World} {b off c : Nat} {zs : List Int} (hbig : zs.length ≤ 100000) (hc : ∀ j, j < zs.length → w.cell? ⟨b, off + j, none⟩ = some (.int .u32 (zs.getD j 0))) :
    Calls Try.prog 42 #[.slice (some ⟨b, off, none⟩) zs.length c] w fun e w' => ∃ a kap, e = .returned (.slice (some ⟨a, 0, none⟩) zs.length kap) ∧ zs.length ≤ kap ∧ w.heap.size ≤ a ∧ Row w' a zs ∧ Below w.heap.size w w' := by
  obtain ⟨i0, hi, hz0, hz1, hz2⟩ := info_parts info32
  have q : ∀ (w : World) (a : Option Addr) (n c n' c' : Nat), (binOp .eql 22 (.slice a n c) (.slice none n' c')).run Try.prog w = .ok (.bool a.isNone) w := fun w a n c n' c' => Lib.run_eql_slice_nil w _ _ a n c n' c' under32
  have A := Lib.hid hc
  clear hc
  go_enter Try.func42, Try.ntmps42
  go_wp2_with (at_builtin; refine wpList_append_own _ rfl _ _ 22 rfl w.heap.size 34 i0 (.int .u32 0) 1 4 under32 hi hz0 hz1 hz2 rfl (by decide) _ _ _ rfl (World.ownsRow_made w #[] 0 (Nat.le_refl _) (Nat.zero_le _) rfl) ⟨b, off, none⟩ zs.length c (zs.map (Value.int .u32)) rfl ?qc1 ?qc2 ?qc3 ?qc4 ?qc5 ?qc6 ?_)
  case qc1 => simp
  case qc2 =>
    intro j u hj
    have hjn : j < zs.length := by
      have := (List.getElem?_eq_some_iff.1 hj).1
      simpa using this
    rw [Addr.add_lit]
    refine Lib.cell?_alloc_some _ ?_
    rw [A.out j hjn]
    have e : (zs.map (Value.int .u32))[j]? = some (Value.int .u32 (zs.getD j 0)) := by simp [List.getD, hjn]
    rw [e] at hj
    exact hj
  case qc3 => intro u hu; obtain ⟨x, _, rfl⟩ := List.mem_map.1 hu; rfl
  case qc4 => unfold maxLen; omega
  case qc5 => omega
  case qc6 => simp
  intro v' w1 hown hgrow hnil
  go_wp2
  go_ret
  obtain ⟨a, kap, rfl, h1, h2, h3⟩ := Row.of_owns (by simpa using hown) hnil
  exact ⟨a, kap, rfl, h1, h2, h3, ((Below.refl _ w).alloc (Nat.le_refl _) _).grown hgrow (by simp) (by intro k hk; simp [Value.ownBlock] at hk; omega)⟩
end Sl
end Go.Proofs.Ytfghlfolejpjjaa

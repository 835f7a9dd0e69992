/- Rows of words that are the same. -/
import Derived.Test.YtfghlfolejpjjaaRB
namespace Go.Proofs.Ytfghlfolejpjjaa
open Go.RowKit
set_option linter.unusedVariables false
attribute [local go_sem] max2_int min2_int max_two min_two
namespace Rnor
set_option maxRecDepth 100000 in
theorem words_same {w : World} {a b k1 k2 : Nat} {zs : List Int} (h1 : Row w a zs) (h2 : Row w b zs) (hbig : zs.length ≤ 4096) :
    Calls Try.prog 17 #[.slice (some ⟨a, 0, none⟩) zs.length k1, .slice (some ⟨b, 0, none⟩) zs.length k2] w fun e w' => e = .returned (.bool true) ∧ Below w.heap.size w w' := by
  have hb2 : (zs.length : Int) ≤ 4096 := by omega
  go_enter Try.func17, Try.ntmps17
  go_wp2
  go_loopw [5] (fun i wr => ∃ k : Nat, k ≤ zs.length ∧ i = .int .i64 k ∧ Below w.heap.size w wr) (fun i _ => zs.length - (intOf i).toNat)
  case atStart => exact ⟨0, Nat.zero_le _, rfl, Below.refl _ _⟩
  case round =>
    obtain ⟨k, hk, rfl, hB⟩ := hrel
    by_cases hlt : k < zs.length
    · have e1 := (h1.below hB).cell hlt
      have e2 := (h2.below hB).cell hlt
      have hlt2 : (k : Int) < (zs.length : Int) := by omega
      generalize zs.getD k 0 = x at e1 e2
      go_wp2
      go_quiet (fail)
      go_wp2
      go_roundw
      case rel => exact ⟨k + 1, by omega, by go_num, ⟨hB.os, hB.tape, hB.output, hB.size, hB.block⟩⟩
      case measure => simp [intOf]; omega
    · obtain rfl : k = zs.length := by omega
      go_wp2
      go_ret
      exact ⟨rfl, hB⟩
end Rnor
end Go.Proofs.Ytfghlfolejpjjaa

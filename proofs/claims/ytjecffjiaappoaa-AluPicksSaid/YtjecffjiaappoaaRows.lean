/-
  No cell of these rows narrows 'for every input' (looked for: loops, veiled, ifaces, maps, wideKeys, modest, calm, conditions, laid).
  DERIVED. THE GIVEN ROWS OF THIS SEAT. 8 by the template 'for every input the law returns true; each argument reads behind the call as it read before'; 0 by the template 'total and deterministic' (their statements: YtjecffjiaappoaaTotals.lean).
  GIVEN WITH THE SEED: the statements are not yours to turn. If you find one false, say at which input.
  Laid BY PROGRAM, IN A SANDBOX (cutbox-rows.mjs): the forced cells as the released guide's own fill.sh prints them over the translation 9b9d4fc88e55c35a… (all of the seat's roots in one cut). By AI agents, Wed Nov 11 2026. No macro, syntax, notation, axiom, sorry.
-/
import Derived.Test.YtjecffjiaappoaaChecked
import GoSem.Claim
import GoSem.ClaimJoined
import GoSem.ClaimMapViews
import Derived.JoinedTies
import Derived.KernelRfl
namespace Go.Proofs.Ytjecffjiaappoaa
/- THE CELL 'sum', in the pinned program and in every row, IS THE sha256 OF THE DUMP (.gsa) THAT YtjecffjiaappoaaProg.lean LOADS. Nothing in Lean hashes anything: it is a label: what it is worth is what the hold of that sum in a sandbox is worth. -/
noncomputable def Try.pinned : Pinned := { name := "ytjecffjiaappoaa", sum := "9b9d4fc88e55c35ac795f3bb19a0753acd019fe3f75cc237c3de9220867ac6ab", checked := Try.checked }
namespace Rows
def none {H : Type} : Left H := { results := [], args := [] }

/-- 'dioptralaw12.AluDoes': WHATEVER THE INPUT: true; the input reads as it did. -/
def aluDoesSpec : ChangeSpec := { name := "aluDoes", fn := fun _ => fun
  | [d1, d2, d3] => { results := [.lit (.bool true)], args := [d1, d2, d3] }
  | _ => none }
def aluDoesRow : OpenClaim := { program := "ytjecffjiaappoaa", sum := "9b9d4fc88e55c35ac795f3bb19a0753acd019fe3f75cc237c3de9220867ac6ab", func := "dioptra/dioptralaw12.AluDoes", spec := "aluDoes", unfollowed := true, recurses := true, apart := false }
def AluDoesSaid : Prop := aluDoesRow.holds Try.pinned (OpenSpec.ofChange aluDoesSpec)

/-- ITS FALSE NEIGHBOUR: 'it returns false'. Refute it at one input. -/
def aluDoesWrong : ChangeSpec := { name := "aluDoes", fn := fun _ => fun
  | [d1, d2, d3] => { results := [.lit (.bool false)], args := [d1, d2, d3] }
  | _ => none }
def AluDoesWrongFalsely : Prop := aluDoesRow.holds Try.pinned (OpenSpec.ofChange aluDoesWrong)

/-- 'dioptralaw12.AluMoves': WHATEVER THE INPUT: true; the input reads as it did. -/
def aluMovesSpec : ChangeSpec := { name := "aluMoves", fn := fun _ => fun
  | [d1, d2, d3] => { results := [.lit (.bool true)], args := [d1, d2, d3] }
  | _ => none }
def aluMovesRow : OpenClaim := { program := "ytjecffjiaappoaa", sum := "9b9d4fc88e55c35ac795f3bb19a0753acd019fe3f75cc237c3de9220867ac6ab", func := "dioptra/dioptralaw12.AluMoves", spec := "aluMoves", unfollowed := true, recurses := true, apart := false }
def AluMovesSaid : Prop := aluMovesRow.holds Try.pinned (OpenSpec.ofChange aluMovesSpec)

/-- ITS FALSE NEIGHBOUR: 'it returns false'. Refute it at one input. -/
def aluMovesWrong : ChangeSpec := { name := "aluMoves", fn := fun _ => fun
  | [d1, d2, d3] => { results := [.lit (.bool false)], args := [d1, d2, d3] }
  | _ => none }
def AluMovesWrongFalsely : Prop := aluMovesRow.holds Try.pinned (OpenSpec.ofChange aluMovesWrong)

/-- 'dioptralaw12.AluDivides': WHATEVER THE INPUT: true; the input reads as it did. -/
def aluDividesSpec : ChangeSpec := { name := "aluDivides", fn := fun _ => fun
  | [d1, d2] => { results := [.lit (.bool true)], args := [d1, d2] }
  | _ => none }
def aluDividesRow : OpenClaim := { program := "ytjecffjiaappoaa", sum := "9b9d4fc88e55c35ac795f3bb19a0753acd019fe3f75cc237c3de9220867ac6ab", func := "dioptra/dioptralaw12.AluDivides", spec := "aluDivides", unfollowed := true, recurses := true, apart := false }
def AluDividesSaid : Prop := aluDividesRow.holds Try.pinned (OpenSpec.ofChange aluDividesSpec)

/-- ITS FALSE NEIGHBOUR: 'it returns false'. Refute it at one input. -/
def aluDividesWrong : ChangeSpec := { name := "aluDivides", fn := fun _ => fun
  | [d1, d2] => { results := [.lit (.bool false)], args := [d1, d2] }
  | _ => none }
def AluDividesWrongFalsely : Prop := aluDividesRow.holds Try.pinned (OpenSpec.ofChange aluDividesWrong)

/-- 'dioptralaw12.AluProducts': WHATEVER THE INPUT: true; the input reads as it did. -/
def aluProductsSpec : ChangeSpec := { name := "aluProducts", fn := fun _ => fun
  | [d1, d2] => { results := [.lit (.bool true)], args := [d1, d2] }
  | _ => none }
def aluProductsRow : OpenClaim := { program := "ytjecffjiaappoaa", sum := "9b9d4fc88e55c35ac795f3bb19a0753acd019fe3f75cc237c3de9220867ac6ab", func := "dioptra/dioptralaw12.AluProducts", spec := "aluProducts", unfollowed := true, recurses := true, apart := false }
def AluProductsSaid : Prop := aluProductsRow.holds Try.pinned (OpenSpec.ofChange aluProductsSpec)

/-- ITS FALSE NEIGHBOUR: 'it returns false'. Refute it at one input. -/
def aluProductsWrong : ChangeSpec := { name := "aluProducts", fn := fun _ => fun
  | [d1, d2] => { results := [.lit (.bool false)], args := [d1, d2] }
  | _ => none }
def AluProductsWrongFalsely : Prop := aluProductsRow.holds Try.pinned (OpenSpec.ofChange aluProductsWrong)

/-- 'dioptralaw12.AluNumbers': WHATEVER THE INPUT: true; the input reads as it did. -/
def aluNumbersSpec : ChangeSpec := { name := "aluNumbers", fn := fun _ => fun
  | [d1, d2, d3] => { results := [.lit (.bool true)], args := [d1, d2, d3] }
  | _ => none }
def aluNumbersRow : OpenClaim := { program := "ytjecffjiaappoaa", sum := "9b9d4fc88e55c35ac795f3bb19a0753acd019fe3f75cc237c3de9220867ac6ab", func := "dioptra/dioptralaw12.AluNumbers", spec := "aluNumbers", unfollowed := true, recurses := true, apart := false }
def AluNumbersSaid : Prop := aluNumbersRow.holds Try.pinned (OpenSpec.ofChange aluNumbersSpec)

/-- ITS FALSE NEIGHBOUR: 'it returns false'. Refute it at one input. -/
def aluNumbersWrong : ChangeSpec := { name := "aluNumbers", fn := fun _ => fun
  | [d1, d2, d3] => { results := [.lit (.bool false)], args := [d1, d2, d3] }
  | _ => none }
def AluNumbersWrongFalsely : Prop := aluNumbersRow.holds Try.pinned (OpenSpec.ofChange aluNumbersWrong)

/-- 'dioptralaw12.AluBranches': WHATEVER THE INPUT: true; the input reads as it did. -/
def aluBranchesSpec : ChangeSpec := { name := "aluBranches", fn := fun _ => fun
  | [d1, d2] => { results := [.lit (.bool true)], args := [d1, d2] }
  | _ => none }
def aluBranchesRow : OpenClaim := { program := "ytjecffjiaappoaa", sum := "9b9d4fc88e55c35ac795f3bb19a0753acd019fe3f75cc237c3de9220867ac6ab", func := "dioptra/dioptralaw12.AluBranches", spec := "aluBranches", unfollowed := true, recurses := true, apart := false }
def AluBranchesSaid : Prop := aluBranchesRow.holds Try.pinned (OpenSpec.ofChange aluBranchesSpec)

/-- ITS FALSE NEIGHBOUR: 'it returns false'. Refute it at one input. -/
def aluBranchesWrong : ChangeSpec := { name := "aluBranches", fn := fun _ => fun
  | [d1, d2] => { results := [.lit (.bool false)], args := [d1, d2] }
  | _ => none }
def AluBranchesWrongFalsely : Prop := aluBranchesRow.holds Try.pinned (OpenSpec.ofChange aluBranchesWrong)

/-- 'dioptralaw12.AluShifts': WHATEVER THE INPUT: true; the input reads as it did. -/
def aluShiftsSpec : ChangeSpec := { name := "aluShifts", fn := fun _ => fun
  | [d1, d2, d3] => { results := [.lit (.bool true)], args := [d1, d2, d3] }
  | _ => none }
def aluShiftsRow : OpenClaim := { program := "ytjecffjiaappoaa", sum := "9b9d4fc88e55c35ac795f3bb19a0753acd019fe3f75cc237c3de9220867ac6ab", func := "dioptra/dioptralaw12.AluShifts", spec := "aluShifts", unfollowed := true, recurses := true, apart := false }
def AluShiftsSaid : Prop := aluShiftsRow.holds Try.pinned (OpenSpec.ofChange aluShiftsSpec)

/-- ITS FALSE NEIGHBOUR: 'it returns false'. Refute it at one input. -/
def aluShiftsWrong : ChangeSpec := { name := "aluShifts", fn := fun _ => fun
  | [d1, d2, d3] => { results := [.lit (.bool false)], args := [d1, d2, d3] }
  | _ => none }
def AluShiftsWrongFalsely : Prop := aluShiftsRow.holds Try.pinned (OpenSpec.ofChange aluShiftsWrong)

/-- 'dioptralaw12.AluPicks': WHATEVER THE INPUT: true; the input reads as it did. -/
def aluPicksSpec : ChangeSpec := { name := "aluPicks", fn := fun _ => fun
  | [d1, d2] => { results := [.lit (.bool true)], args := [d1, d2] }
  | _ => none }
def aluPicksRow : OpenClaim := { program := "ytjecffjiaappoaa", sum := "9b9d4fc88e55c35ac795f3bb19a0753acd019fe3f75cc237c3de9220867ac6ab", func := "dioptra/dioptralaw12.AluPicks", spec := "aluPicks", unfollowed := true, recurses := true, apart := false }
def AluPicksSaid : Prop := aluPicksRow.holds Try.pinned (OpenSpec.ofChange aluPicksSpec)

/-- ITS FALSE NEIGHBOUR: 'it returns false'. Refute it at one input. -/
def aluPicksWrong : ChangeSpec := { name := "aluPicks", fn := fun _ => fun
  | [d1, d2] => { results := [.lit (.bool false)], args := [d1, d2] }
  | _ => none }
def AluPicksWrongFalsely : Prop := aluPicksRow.holds Try.pinned (OpenSpec.ofChange aluPicksWrong)

/- THE SECOND FORM. 'bulk': how many values and letters a reading holds, each counted each time it is reached (what is shared counts as often as it is met; a slice's spare places count too). A statement '..UptoSaid' is the law's where the arguments, and the package variables that the reading takes, are together of bulk at most 1048576: NARROWER than '..Said'. Prove '..Said' where nothing that the law and all that it calls make is longer than what came in: it says more and counts as full. Else prove '..UptoSaid'. A law counts once. -/
mutual
def uptoBulk {H : Type} : DataW H → Nat
  | .lit (.string bytes) => bytes.length + 1
  | .lit _ => 1
  | .nil => 1
  | .ptr d => uptoBulk d + 1
  | .slice elems spare => uptoBulkAll elems + uptoBulkAll spare + 1
  | .agg parts => uptoBulkAll parts + 1
  | .iface _ d => uptoBulk d + 1
  | .map entries => uptoBulkEntries entries + 1
  | .held _ => 1
def uptoBulkAll {H : Type} : List (DataW H) → Nat
  | [] => 0
  | d :: r => uptoBulk d + uptoBulkAll r
def uptoBulkEntries {H : Type} : List (Lit × DataW H) → Nat
  | [] => 0
  | x :: r => uptoBulkEntry x + uptoBulkEntries r
def uptoBulkEntry {H : Type} : Lit × DataW H → Nat
  | (.string bytes, d) => bytes.length + uptoBulk d + 1
  | (_, d) => uptoBulk d + 1
 end
def uptoSmall : (H : Type) → List (DataW H) → Bool := fun _ ds => decide (uptoBulkAll ds ≤ 1048576)
def OpenSpec.upto (s : _root_.Go.ChangeSpec) : _root_.Go.OpenSpec := { _root_.Go.OpenSpec.ofChange s with cond := some uptoSmall }

/-- 'dioptralaw12.AluDoes', WHERE WHAT IT READS IS OF BULK AT MOST 1048576: true; the input reads as it did. -/
def aluDoesUptoRow : OpenClaim := { program := "ytjecffjiaappoaa", sum := "9b9d4fc88e55c35ac795f3bb19a0753acd019fe3f75cc237c3de9220867ac6ab", func := "dioptra/dioptralaw12.AluDoes", spec := "aluDoes", unfollowed := true, recurses := true, apart := false, narrowed := true }
def AluDoesUptoSaid : Prop := aluDoesUptoRow.holds Try.pinned (OpenSpec.upto aluDoesSpec)

/-- 'dioptralaw12.AluMoves', WHERE WHAT IT READS IS OF BULK AT MOST 1048576: true; the input reads as it did. -/
def aluMovesUptoRow : OpenClaim := { program := "ytjecffjiaappoaa", sum := "9b9d4fc88e55c35ac795f3bb19a0753acd019fe3f75cc237c3de9220867ac6ab", func := "dioptra/dioptralaw12.AluMoves", spec := "aluMoves", unfollowed := true, recurses := true, apart := false, narrowed := true }
def AluMovesUptoSaid : Prop := aluMovesUptoRow.holds Try.pinned (OpenSpec.upto aluMovesSpec)

/-- 'dioptralaw12.AluDivides', WHERE WHAT IT READS IS OF BULK AT MOST 1048576: true; the input reads as it did. -/
def aluDividesUptoRow : OpenClaim := { program := "ytjecffjiaappoaa", sum := "9b9d4fc88e55c35ac795f3bb19a0753acd019fe3f75cc237c3de9220867ac6ab", func := "dioptra/dioptralaw12.AluDivides", spec := "aluDivides", unfollowed := true, recurses := true, apart := false, narrowed := true }
def AluDividesUptoSaid : Prop := aluDividesUptoRow.holds Try.pinned (OpenSpec.upto aluDividesSpec)

/-- 'dioptralaw12.AluProducts', WHERE WHAT IT READS IS OF BULK AT MOST 1048576: true; the input reads as it did. -/
def aluProductsUptoRow : OpenClaim := { program := "ytjecffjiaappoaa", sum := "9b9d4fc88e55c35ac795f3bb19a0753acd019fe3f75cc237c3de9220867ac6ab", func := "dioptra/dioptralaw12.AluProducts", spec := "aluProducts", unfollowed := true, recurses := true, apart := false, narrowed := true }
def AluProductsUptoSaid : Prop := aluProductsUptoRow.holds Try.pinned (OpenSpec.upto aluProductsSpec)

/-- 'dioptralaw12.AluNumbers', WHERE WHAT IT READS IS OF BULK AT MOST 1048576: true; the input reads as it did. -/
def aluNumbersUptoRow : OpenClaim := { program := "ytjecffjiaappoaa", sum := "9b9d4fc88e55c35ac795f3bb19a0753acd019fe3f75cc237c3de9220867ac6ab", func := "dioptra/dioptralaw12.AluNumbers", spec := "aluNumbers", unfollowed := true, recurses := true, apart := false, narrowed := true }
def AluNumbersUptoSaid : Prop := aluNumbersUptoRow.holds Try.pinned (OpenSpec.upto aluNumbersSpec)

/-- 'dioptralaw12.AluBranches', WHERE WHAT IT READS IS OF BULK AT MOST 1048576: true; the input reads as it did. -/
def aluBranchesUptoRow : OpenClaim := { program := "ytjecffjiaappoaa", sum := "9b9d4fc88e55c35ac795f3bb19a0753acd019fe3f75cc237c3de9220867ac6ab", func := "dioptra/dioptralaw12.AluBranches", spec := "aluBranches", unfollowed := true, recurses := true, apart := false, narrowed := true }
def AluBranchesUptoSaid : Prop := aluBranchesUptoRow.holds Try.pinned (OpenSpec.upto aluBranchesSpec)

/-- 'dioptralaw12.AluShifts', WHERE WHAT IT READS IS OF BULK AT MOST 1048576: true; the input reads as it did. -/
def aluShiftsUptoRow : OpenClaim := { program := "ytjecffjiaappoaa", sum := "9b9d4fc88e55c35ac795f3bb19a0753acd019fe3f75cc237c3de9220867ac6ab", func := "dioptra/dioptralaw12.AluShifts", spec := "aluShifts", unfollowed := true, recurses := true, apart := false, narrowed := true }
def AluShiftsUptoSaid : Prop := aluShiftsUptoRow.holds Try.pinned (OpenSpec.upto aluShiftsSpec)

/-- 'dioptralaw12.AluPicks', WHERE WHAT IT READS IS OF BULK AT MOST 1048576: true; the input reads as it did. -/
def aluPicksUptoRow : OpenClaim := { program := "ytjecffjiaappoaa", sum := "9b9d4fc88e55c35ac795f3bb19a0753acd019fe3f75cc237c3de9220867ac6ab", func := "dioptra/dioptralaw12.AluPicks", spec := "aluPicks", unfollowed := true, recurses := true, apart := false, narrowed := true }
def AluPicksUptoSaid : Prop := aluPicksUptoRow.holds Try.pinned (OpenSpec.upto aluPicksSpec)

end Rows
end Go.Proofs.Ytjecffjiaappoaa

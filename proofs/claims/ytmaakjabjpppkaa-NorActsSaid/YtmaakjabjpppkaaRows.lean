/-
  No cell of these rows narrows 'for every input' (looked for: loops, veiled, ifaces, maps, wideKeys, modest, calm, conditions, laid).
  DERIVED. THE GIVEN ROWS OF THIS SEAT. 8 by the template 'for every input the law returns true; each argument reads behind the call as it read before'; 0 by the template 'total and deterministic' (their statements: YtmaakjabjpppkaaTotals.lean).
  GIVEN WITH THE SEED: the statements are not yours to turn. If you find one false, say at which input.
  Laid BY PROGRAM, IN A SANDBOX (cutbox-rows.mjs): the forced cells as the released guide's own fill.sh prints them over the translation 13e997d1516d7213… (all of the seat's roots in one cut). By AI agents, Wed Nov 11 2026. No macro, syntax, notation, axiom, sorry.
-/
import Derived.Test.YtmaakjabjpppkaaChecked
import GoSem.Claim
import GoSem.ClaimJoined
import GoSem.ClaimMapViews
import Derived.JoinedTies
import Derived.KernelRfl
namespace Go.Proofs.Ytmaakjabjpppkaa
/- THE CELL 'sum', in the pinned program and in every row, IS THE sha256 OF THE DUMP (.gsa) THAT YtmaakjabjpppkaaProg.lean LOADS. Nothing in Lean hashes anything: it is a label: what it is worth is what the hold of that sum in a sandbox is worth. -/
noncomputable def Try.pinned : Pinned := { name := "ytmaakjabjpppkaa", sum := "13e997d1516d7213736c960fe3c2b0dbcb28aeca6cb0d7a55c0b0080b890e519", checked := Try.checked }
namespace Rows
def none {H : Type} : Left H := { results := [], args := [] }

/-- 'dioptralaw02.NorWorn': WHATEVER THE INPUT: true; the input reads as it did. -/
def norWornSpec : ChangeSpec := { name := "norWorn", fn := fun _ => fun
  | [d1, d2] => { results := [.lit (.bool true)], args := [d1, d2] }
  | _ => none }
def norWornRow : OpenClaim := { program := "ytmaakjabjpppkaa", sum := "13e997d1516d7213736c960fe3c2b0dbcb28aeca6cb0d7a55c0b0080b890e519", func := "dioptra/dioptralaw02.NorWorn", spec := "norWorn", unfollowed := true, recurses := true, apart := false }
def NorWornSaid : Prop := norWornRow.holds Try.pinned (OpenSpec.ofChange norWornSpec)

/-- ITS FALSE NEIGHBOUR: 'it returns false'. Refute it at one input. -/
def norWornWrong : ChangeSpec := { name := "norWorn", fn := fun _ => fun
  | [d1, d2] => { results := [.lit (.bool false)], args := [d1, d2] }
  | _ => none }
def NorWornWrongFalsely : Prop := norWornRow.holds Try.pinned (OpenSpec.ofChange norWornWrong)

/-- 'dioptralaw02.NorOf': WHATEVER THE INPUT: true; the input reads as it did. -/
def norOfSpec : ChangeSpec := { name := "norOf", fn := fun _ => fun
  | [d1, d2] => { results := [.lit (.bool true)], args := [d1, d2] }
  | _ => none }
def norOfRow : OpenClaim := { program := "ytmaakjabjpppkaa", sum := "13e997d1516d7213736c960fe3c2b0dbcb28aeca6cb0d7a55c0b0080b890e519", func := "dioptra/dioptralaw02.NorOf", spec := "norOf", unfollowed := true, recurses := true, apart := false }
def NorOfSaid : Prop := norOfRow.holds Try.pinned (OpenSpec.ofChange norOfSpec)

/-- ITS FALSE NEIGHBOUR: 'it returns false'. Refute it at one input. -/
def norOfWrong : ChangeSpec := { name := "norOf", fn := fun _ => fun
  | [d1, d2] => { results := [.lit (.bool false)], args := [d1, d2] }
  | _ => none }
def NorOfWrongFalsely : Prop := norOfRow.holds Try.pinned (OpenSpec.ofChange norOfWrong)

/-- 'dioptralaw02.NorMeets': WHATEVER THE INPUT: true; the input reads as it did. -/
def norMeetsSpec : ChangeSpec := { name := "norMeets", fn := fun _ => fun
  | [d1, d2] => { results := [.lit (.bool true)], args := [d1, d2] }
  | _ => none }
def norMeetsRow : OpenClaim := { program := "ytmaakjabjpppkaa", sum := "13e997d1516d7213736c960fe3c2b0dbcb28aeca6cb0d7a55c0b0080b890e519", func := "dioptra/dioptralaw02.NorMeets", spec := "norMeets", unfollowed := true, recurses := true, apart := false }
def NorMeetsSaid : Prop := norMeetsRow.holds Try.pinned (OpenSpec.ofChange norMeetsSpec)

/-- ITS FALSE NEIGHBOUR: 'it returns false'. Refute it at one input. -/
def norMeetsWrong : ChangeSpec := { name := "norMeets", fn := fun _ => fun
  | [d1, d2] => { results := [.lit (.bool false)], args := [d1, d2] }
  | _ => none }
def NorMeetsWrongFalsely : Prop := norMeetsRow.holds Try.pinned (OpenSpec.ofChange norMeetsWrong)

/-- 'dioptralaw02.NorFuses': WHATEVER THE INPUT: true; the input reads as it did. -/
def norFusesSpec : ChangeSpec := { name := "norFuses", fn := fun _ => fun
  | [d1, d2, d3] => { results := [.lit (.bool true)], args := [d1, d2, d3] }
  | _ => none }
def norFusesRow : OpenClaim := { program := "ytmaakjabjpppkaa", sum := "13e997d1516d7213736c960fe3c2b0dbcb28aeca6cb0d7a55c0b0080b890e519", func := "dioptra/dioptralaw02.NorFuses", spec := "norFuses", unfollowed := true, recurses := true, apart := false }
def NorFusesSaid : Prop := norFusesRow.holds Try.pinned (OpenSpec.ofChange norFusesSpec)

/-- ITS FALSE NEIGHBOUR: 'it returns false'. Refute it at one input. -/
def norFusesWrong : ChangeSpec := { name := "norFuses", fn := fun _ => fun
  | [d1, d2, d3] => { results := [.lit (.bool false)], args := [d1, d2, d3] }
  | _ => none }
def NorFusesWrongFalsely : Prop := norFusesRow.holds Try.pinned (OpenSpec.ofChange norFusesWrong)

/-- 'dioptralaw02.NorCells': WHATEVER THE INPUT: true; the input reads as it did. -/
def norCellsSpec : ChangeSpec := { name := "norCells", fn := fun _ => fun
  | [d] => { results := [.lit (.bool true)], args := [d] }
  | _ => none }
def norCellsRow : OpenClaim := { program := "ytmaakjabjpppkaa", sum := "13e997d1516d7213736c960fe3c2b0dbcb28aeca6cb0d7a55c0b0080b890e519", func := "dioptra/dioptralaw02.NorCells", spec := "norCells", unfollowed := true, recurses := true, apart := false }
def NorCellsSaid : Prop := norCellsRow.holds Try.pinned (OpenSpec.ofChange norCellsSpec)

/-- ITS FALSE NEIGHBOUR: 'it returns false'. Refute it at one input. -/
def norCellsWrong : ChangeSpec := { name := "norCells", fn := fun _ => fun
  | [d] => { results := [.lit (.bool false)], args := [d] }
  | _ => none }
def NorCellsWrongFalsely : Prop := norCellsRow.holds Try.pinned (OpenSpec.ofChange norCellsWrong)

/-- 'dioptralaw02.NorPart': WHATEVER THE INPUT: true; the input reads as it did. -/
def norPartSpec : ChangeSpec := { name := "norPart", fn := fun _ => fun
  | [d1, d2, d3] => { results := [.lit (.bool true)], args := [d1, d2, d3] }
  | _ => none }
def norPartRow : OpenClaim := { program := "ytmaakjabjpppkaa", sum := "13e997d1516d7213736c960fe3c2b0dbcb28aeca6cb0d7a55c0b0080b890e519", func := "dioptra/dioptralaw02.NorPart", spec := "norPart", unfollowed := true, recurses := true, apart := false }
def NorPartSaid : Prop := norPartRow.holds Try.pinned (OpenSpec.ofChange norPartSpec)

/-- ITS FALSE NEIGHBOUR: 'it returns false'. Refute it at one input. -/
def norPartWrong : ChangeSpec := { name := "norPart", fn := fun _ => fun
  | [d1, d2, d3] => { results := [.lit (.bool false)], args := [d1, d2, d3] }
  | _ => none }
def NorPartWrongFalsely : Prop := norPartRow.holds Try.pinned (OpenSpec.ofChange norPartWrong)

/-- 'dioptralaw02.NorActs': WHATEVER THE INPUT: true; the input reads as it did. -/
def norActsSpec : ChangeSpec := { name := "norActs", fn := fun _ => fun
  | [d1, d2, d3] => { results := [.lit (.bool true)], args := [d1, d2, d3] }
  | _ => none }
def norActsRow : OpenClaim := { program := "ytmaakjabjpppkaa", sum := "13e997d1516d7213736c960fe3c2b0dbcb28aeca6cb0d7a55c0b0080b890e519", func := "dioptra/dioptralaw02.NorActs", spec := "norActs", unfollowed := true, recurses := true, apart := false }
def NorActsSaid : Prop := norActsRow.holds Try.pinned (OpenSpec.ofChange norActsSpec)

/-- ITS FALSE NEIGHBOUR: 'it returns false'. Refute it at one input. -/
def norActsWrong : ChangeSpec := { name := "norActs", fn := fun _ => fun
  | [d1, d2, d3] => { results := [.lit (.bool false)], args := [d1, d2, d3] }
  | _ => none }
def NorActsWrongFalsely : Prop := norActsRow.holds Try.pinned (OpenSpec.ofChange norActsWrong)

/-- 'dioptralaw02.NorNobody': WHATEVER THE INPUT: true; the input reads as it did. -/
def norNobodySpec : ChangeSpec := { name := "norNobody", fn := fun _ => fun
  | [d1, d2] => { results := [.lit (.bool true)], args := [d1, d2] }
  | _ => none }
def norNobodyRow : OpenClaim := { program := "ytmaakjabjpppkaa", sum := "13e997d1516d7213736c960fe3c2b0dbcb28aeca6cb0d7a55c0b0080b890e519", func := "dioptra/dioptralaw02.NorNobody", spec := "norNobody", unfollowed := true, recurses := true, apart := false }
def NorNobodySaid : Prop := norNobodyRow.holds Try.pinned (OpenSpec.ofChange norNobodySpec)

/-- ITS FALSE NEIGHBOUR: 'it returns false'. Refute it at one input. -/
def norNobodyWrong : ChangeSpec := { name := "norNobody", fn := fun _ => fun
  | [d1, d2] => { results := [.lit (.bool false)], args := [d1, d2] }
  | _ => none }
def NorNobodyWrongFalsely : Prop := norNobodyRow.holds Try.pinned (OpenSpec.ofChange norNobodyWrong)

/- THE SECOND FORM. 'bulk': how many values and letters a reading holds, each counted each time it is reached (what is shared counts as often as it is met; a slice's spare places count too). A statement '..UptoSaid' is the law's where the arguments, and the package variables that the reading takes, are together of bulk at most 1048576: NARROWER than '..Said'. Prove '..Said' where nothing that the law and all that it calls make is longer than what came in: it says more and counts as full. Else prove '..UptoSaid'. A law counts once. -/
mutual
def uptoBulk {H : Type} : DataW H → Nat
  | .lit (.string bytes) => bytes.length + 1
  | .lit _ => 1
  | .nil => 1
  | .ptr d => uptoBulk d + 1
  | .slice elems spare => uptoBulkAll elems + uptoBulkAll spare + 1
  | .agg parts => uptoBulkAll parts + 1
  | .iface _ d => uptoBulk d + 1
  | .map entries => uptoBulkEntries entries + 1
  | .held _ => 1
def uptoBulkAll {H : Type} : List (DataW H) → Nat
  | [] => 0
  | d :: r => uptoBulk d + uptoBulkAll r
def uptoBulkEntries {H : Type} : List (Lit × DataW H) → Nat
  | [] => 0
  | x :: r => uptoBulkEntry x + uptoBulkEntries r
def uptoBulkEntry {H : Type} : Lit × DataW H → Nat
  | (.string bytes, d) => bytes.length + uptoBulk d + 1
  | (_, d) => uptoBulk d + 1
 end
def uptoSmall : (H : Type) → List (DataW H) → Bool := fun _ ds => decide (uptoBulkAll ds ≤ 1048576)
def OpenSpec.upto (s : _root_.Go.ChangeSpec) : _root_.Go.OpenSpec := { _root_.Go.OpenSpec.ofChange s with cond := some uptoSmall }

/-- 'dioptralaw02.NorWorn', WHERE WHAT IT READS IS OF BULK AT MOST 1048576: true; the input reads as it did. -/
def norWornUptoRow : OpenClaim := { program := "ytmaakjabjpppkaa", sum := "13e997d1516d7213736c960fe3c2b0dbcb28aeca6cb0d7a55c0b0080b890e519", func := "dioptra/dioptralaw02.NorWorn", spec := "norWorn", unfollowed := true, recurses := true, apart := false, narrowed := true }
def NorWornUptoSaid : Prop := norWornUptoRow.holds Try.pinned (OpenSpec.upto norWornSpec)

/-- 'dioptralaw02.NorOf', WHERE WHAT IT READS IS OF BULK AT MOST 1048576: true; the input reads as it did. -/
def norOfUptoRow : OpenClaim := { program := "ytmaakjabjpppkaa", sum := "13e997d1516d7213736c960fe3c2b0dbcb28aeca6cb0d7a55c0b0080b890e519", func := "dioptra/dioptralaw02.NorOf", spec := "norOf", unfollowed := true, recurses := true, apart := false, narrowed := true }
def NorOfUptoSaid : Prop := norOfUptoRow.holds Try.pinned (OpenSpec.upto norOfSpec)

/-- 'dioptralaw02.NorMeets', WHERE WHAT IT READS IS OF BULK AT MOST 1048576: true; the input reads as it did. -/
def norMeetsUptoRow : OpenClaim := { program := "ytmaakjabjpppkaa", sum := "13e997d1516d7213736c960fe3c2b0dbcb28aeca6cb0d7a55c0b0080b890e519", func := "dioptra/dioptralaw02.NorMeets", spec := "norMeets", unfollowed := true, recurses := true, apart := false, narrowed := true }
def NorMeetsUptoSaid : Prop := norMeetsUptoRow.holds Try.pinned (OpenSpec.upto norMeetsSpec)

/-- 'dioptralaw02.NorFuses', WHERE WHAT IT READS IS OF BULK AT MOST 1048576: true; the input reads as it did. -/
def norFusesUptoRow : OpenClaim := { program := "ytmaakjabjpppkaa", sum := "13e997d1516d7213736c960fe3c2b0dbcb28aeca6cb0d7a55c0b0080b890e519", func := "dioptra/dioptralaw02.NorFuses", spec := "norFuses", unfollowed := true, recurses := true, apart := false, narrowed := true }
def NorFusesUptoSaid : Prop := norFusesUptoRow.holds Try.pinned (OpenSpec.upto norFusesSpec)

/-- 'dioptralaw02.NorCells', WHERE WHAT IT READS IS OF BULK AT MOST 1048576: true; the input reads as it did. -/
def norCellsUptoRow : OpenClaim := { program := "ytmaakjabjpppkaa", sum := "13e997d1516d7213736c960fe3c2b0dbcb28aeca6cb0d7a55c0b0080b890e519", func := "dioptra/dioptralaw02.NorCells", spec := "norCells", unfollowed := true, recurses := true, apart := false, narrowed := true }
def NorCellsUptoSaid : Prop := norCellsUptoRow.holds Try.pinned (OpenSpec.upto norCellsSpec)

/-- 'dioptralaw02.NorPart', WHERE WHAT IT READS IS OF BULK AT MOST 1048576: true; the input reads as it did. -/
def norPartUptoRow : OpenClaim := { program := "ytmaakjabjpppkaa", sum := "13e997d1516d7213736c960fe3c2b0dbcb28aeca6cb0d7a55c0b0080b890e519", func := "dioptra/dioptralaw02.NorPart", spec := "norPart", unfollowed := true, recurses := true, apart := false, narrowed := true }
def NorPartUptoSaid : Prop := norPartUptoRow.holds Try.pinned (OpenSpec.upto norPartSpec)

/-- 'dioptralaw02.NorActs', WHERE WHAT IT READS IS OF BULK AT MOST 1048576: true; the input reads as it did. -/
def norActsUptoRow : OpenClaim := { program := "ytmaakjabjpppkaa", sum := "13e997d1516d7213736c960fe3c2b0dbcb28aeca6cb0d7a55c0b0080b890e519", func := "dioptra/dioptralaw02.NorActs", spec := "norActs", unfollowed := true, recurses := true, apart := false, narrowed := true }
def NorActsUptoSaid : Prop := norActsUptoRow.holds Try.pinned (OpenSpec.upto norActsSpec)

/-- 'dioptralaw02.NorNobody', WHERE WHAT IT READS IS OF BULK AT MOST 1048576: true; the input reads as it did. -/
def norNobodyUptoRow : OpenClaim := { program := "ytmaakjabjpppkaa", sum := "13e997d1516d7213736c960fe3c2b0dbcb28aeca6cb0d7a55c0b0080b890e519", func := "dioptra/dioptralaw02.NorNobody", spec := "norNobody", unfollowed := true, recurses := true, apart := false, narrowed := true }
def NorNobodyUptoSaid : Prop := norNobodyUptoRow.holds Try.pinned (OpenSpec.upto norNobodySpec)

end Rows
end Go.Proofs.Ytmaakjabjpppkaa

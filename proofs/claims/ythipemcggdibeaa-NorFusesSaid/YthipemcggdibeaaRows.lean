/-
  No cell of these rows narrows 'for every input' (looked for: loops, veiled, ifaces, maps, wideKeys, modest, calm, conditions, laid).
  DERIVED. THE GIVEN ROWS OF THIS SEAT. 21 by the template 'for every input the law returns true; each argument reads behind the call as it read before'; 0 by the template 'total and deterministic' (their statements: YthipemcggdibeaaTotals.lean).
  GIVEN WITH THE SEED: the statements are not yours to turn. If you find one false, say at which input.
  Laid BY PROGRAM, IN A SANDBOX (cutbox-rows.mjs): the forced cells as the released guide's own fill.sh prints them over the translation 9308b87fc2d46032… (all of the seat's roots in one cut). By AI agents, Wed Nov 11 2026. No macro, syntax, notation, axiom, sorry.
-/
import Derived.Test.YthipemcggdibeaaChecked
import GoSem.Claim
import GoSem.ClaimJoined
import GoSem.ClaimMapViews
import Derived.JoinedTies
import Derived.KernelRfl
namespace Go.Proofs.Ythipemcggdibeaa
/- THE CELL 'sum', in the pinned program and in every row, IS THE sha256 OF THE DUMP (.gsa) THAT YthipemcggdibeaaProg.lean LOADS. Nothing in Lean hashes anything: it is a label: what it is worth is what the hold of that sum in a sandbox is worth. -/
noncomputable def Try.pinned : Pinned := { name := "ythipemcggdibeaa", sum := "9308b87fc2d460328c74f3273115af5d6d81167c7e7877ed821ad87c42f21812", checked := Try.checked }
namespace Rows
def none {H : Type} : Left H := { results := [], args := [] }

/-- 'dioptralaw02.NorWorn': WHATEVER THE INPUT: true; the input reads as it did. -/
def norWornSpec : ChangeSpec := { name := "norWorn", fn := fun _ => fun
  | [d1, d2] => { results := [.lit (.bool true)], args := [d1, d2] }
  | _ => none }
def norWornRow : OpenClaim := { program := "ythipemcggdibeaa", sum := "9308b87fc2d460328c74f3273115af5d6d81167c7e7877ed821ad87c42f21812", func := "dioptra/dioptralaw02.NorWorn", spec := "norWorn", unfollowed := true, recurses := true, apart := false }
def NorWornSaid : Prop := norWornRow.holds Try.pinned (OpenSpec.ofChange norWornSpec)

/-- ITS FALSE NEIGHBOUR: 'it returns false'. Refute it at one input. -/
def norWornWrong : ChangeSpec := { name := "norWorn", fn := fun _ => fun
  | [d1, d2] => { results := [.lit (.bool false)], args := [d1, d2] }
  | _ => none }
def NorWornWrongFalsely : Prop := norWornRow.holds Try.pinned (OpenSpec.ofChange norWornWrong)

/-- 'dioptralaw02.NorOf': WHATEVER THE INPUT: true; the input reads as it did. -/
def norOfSpec : ChangeSpec := { name := "norOf", fn := fun _ => fun
  | [d1, d2] => { results := [.lit (.bool true)], args := [d1, d2] }
  | _ => none }
def norOfRow : OpenClaim := { program := "ythipemcggdibeaa", sum := "9308b87fc2d460328c74f3273115af5d6d81167c7e7877ed821ad87c42f21812", func := "dioptra/dioptralaw02.NorOf", spec := "norOf", unfollowed := true, recurses := true, apart := false }
def NorOfSaid : Prop := norOfRow.holds Try.pinned (OpenSpec.ofChange norOfSpec)

/-- ITS FALSE NEIGHBOUR: 'it returns false'. Refute it at one input. -/
def norOfWrong : ChangeSpec := { name := "norOf", fn := fun _ => fun
  | [d1, d2] => { results := [.lit (.bool false)], args := [d1, d2] }
  | _ => none }
def NorOfWrongFalsely : Prop := norOfRow.holds Try.pinned (OpenSpec.ofChange norOfWrong)

/-- 'dioptralaw02.NorMeets': WHATEVER THE INPUT: true; the input reads as it did. -/
def norMeetsSpec : ChangeSpec := { name := "norMeets", fn := fun _ => fun
  | [d1, d2] => { results := [.lit (.bool true)], args := [d1, d2] }
  | _ => none }
def norMeetsRow : OpenClaim := { program := "ythipemcggdibeaa", sum := "9308b87fc2d460328c74f3273115af5d6d81167c7e7877ed821ad87c42f21812", func := "dioptra/dioptralaw02.NorMeets", spec := "norMeets", unfollowed := true, recurses := true, apart := false }
def NorMeetsSaid : Prop := norMeetsRow.holds Try.pinned (OpenSpec.ofChange norMeetsSpec)

/-- ITS FALSE NEIGHBOUR: 'it returns false'. Refute it at one input. -/
def norMeetsWrong : ChangeSpec := { name := "norMeets", fn := fun _ => fun
  | [d1, d2] => { results := [.lit (.bool false)], args := [d1, d2] }
  | _ => none }
def NorMeetsWrongFalsely : Prop := norMeetsRow.holds Try.pinned (OpenSpec.ofChange norMeetsWrong)

/-- 'dioptralaw02.NorFuses': WHATEVER THE INPUT: true; the input reads as it did. -/
def norFusesSpec : ChangeSpec := { name := "norFuses", fn := fun _ => fun
  | [d1, d2, d3] => { results := [.lit (.bool true)], args := [d1, d2, d3] }
  | _ => none }
def norFusesRow : OpenClaim := { program := "ythipemcggdibeaa", sum := "9308b87fc2d460328c74f3273115af5d6d81167c7e7877ed821ad87c42f21812", func := "dioptra/dioptralaw02.NorFuses", spec := "norFuses", unfollowed := true, recurses := true, apart := false }
def NorFusesSaid : Prop := norFusesRow.holds Try.pinned (OpenSpec.ofChange norFusesSpec)

/-- ITS FALSE NEIGHBOUR: 'it returns false'. Refute it at one input. -/
def norFusesWrong : ChangeSpec := { name := "norFuses", fn := fun _ => fun
  | [d1, d2, d3] => { results := [.lit (.bool false)], args := [d1, d2, d3] }
  | _ => none }
def NorFusesWrongFalsely : Prop := norFusesRow.holds Try.pinned (OpenSpec.ofChange norFusesWrong)

/-- 'dioptralaw02.NorCells': WHATEVER THE INPUT: true; the input reads as it did. -/
def norCellsSpec : ChangeSpec := { name := "norCells", fn := fun _ => fun
  | [d] => { results := [.lit (.bool true)], args := [d] }
  | _ => none }
def norCellsRow : OpenClaim := { program := "ythipemcggdibeaa", sum := "9308b87fc2d460328c74f3273115af5d6d81167c7e7877ed821ad87c42f21812", func := "dioptra/dioptralaw02.NorCells", spec := "norCells", unfollowed := true, recurses := true, apart := false }
def NorCellsSaid : Prop := norCellsRow.holds Try.pinned (OpenSpec.ofChange norCellsSpec)

/-- ITS FALSE NEIGHBOUR: 'it returns false'. Refute it at one input. -/
def norCellsWrong : ChangeSpec := { name := "norCells", fn := fun _ => fun
  | [d] => { results := [.lit (.bool false)], args := [d] }
  | _ => none }
def NorCellsWrongFalsely : Prop := norCellsRow.holds Try.pinned (OpenSpec.ofChange norCellsWrong)

/-- 'dioptralaw02.NorPart': WHATEVER THE INPUT: true; the input reads as it did. -/
def norPartSpec : ChangeSpec := { name := "norPart", fn := fun _ => fun
  | [d1, d2, d3] => { results := [.lit (.bool true)], args := [d1, d2, d3] }
  | _ => none }
def norPartRow : OpenClaim := { program := "ythipemcggdibeaa", sum := "9308b87fc2d460328c74f3273115af5d6d81167c7e7877ed821ad87c42f21812", func := "dioptra/dioptralaw02.NorPart", spec := "norPart", unfollowed := true, recurses := true, apart := false }
def NorPartSaid : Prop := norPartRow.holds Try.pinned (OpenSpec.ofChange norPartSpec)

/-- ITS FALSE NEIGHBOUR: 'it returns false'. Refute it at one input. -/
def norPartWrong : ChangeSpec := { name := "norPart", fn := fun _ => fun
  | [d1, d2, d3] => { results := [.lit (.bool false)], args := [d1, d2, d3] }
  | _ => none }
def NorPartWrongFalsely : Prop := norPartRow.holds Try.pinned (OpenSpec.ofChange norPartWrong)

/-- 'dioptralaw02.NorActs': WHATEVER THE INPUT: true; the input reads as it did. -/
def norActsSpec : ChangeSpec := { name := "norActs", fn := fun _ => fun
  | [d1, d2, d3] => { results := [.lit (.bool true)], args := [d1, d2, d3] }
  | _ => none }
def norActsRow : OpenClaim := { program := "ythipemcggdibeaa", sum := "9308b87fc2d460328c74f3273115af5d6d81167c7e7877ed821ad87c42f21812", func := "dioptra/dioptralaw02.NorActs", spec := "norActs", unfollowed := true, recurses := true, apart := false }
def NorActsSaid : Prop := norActsRow.holds Try.pinned (OpenSpec.ofChange norActsSpec)

/-- ITS FALSE NEIGHBOUR: 'it returns false'. Refute it at one input. -/
def norActsWrong : ChangeSpec := { name := "norActs", fn := fun _ => fun
  | [d1, d2, d3] => { results := [.lit (.bool false)], args := [d1, d2, d3] }
  | _ => none }
def NorActsWrongFalsely : Prop := norActsRow.holds Try.pinned (OpenSpec.ofChange norActsWrong)

/-- 'dioptralaw02.NorNobody': WHATEVER THE INPUT: true; the input reads as it did. -/
def norNobodySpec : ChangeSpec := { name := "norNobody", fn := fun _ => fun
  | [d1, d2] => { results := [.lit (.bool true)], args := [d1, d2] }
  | _ => none }
def norNobodyRow : OpenClaim := { program := "ythipemcggdibeaa", sum := "9308b87fc2d460328c74f3273115af5d6d81167c7e7877ed821ad87c42f21812", func := "dioptra/dioptralaw02.NorNobody", spec := "norNobody", unfollowed := true, recurses := true, apart := false }
def NorNobodySaid : Prop := norNobodyRow.holds Try.pinned (OpenSpec.ofChange norNobodySpec)

/-- ITS FALSE NEIGHBOUR: 'it returns false'. Refute it at one input. -/
def norNobodyWrong : ChangeSpec := { name := "norNobody", fn := fun _ => fun
  | [d1, d2] => { results := [.lit (.bool false)], args := [d1, d2] }
  | _ => none }
def NorNobodyWrongFalsely : Prop := norNobodyRow.holds Try.pinned (OpenSpec.ofChange norNobodyWrong)

/-- 'dioptralaw03.CfiModes': WHATEVER THE INPUT: true; the input reads as it did. -/
def cfiModesSpec : ChangeSpec := { name := "cfiModes", fn := fun _ => fun
  | [d1, d2] => { results := [.lit (.bool true)], args := [d1, d2] }
  | _ => none }
def cfiModesRow : OpenClaim := { program := "ythipemcggdibeaa", sum := "9308b87fc2d460328c74f3273115af5d6d81167c7e7877ed821ad87c42f21812", func := "dioptra/dioptralaw03.CfiModes", spec := "cfiModes", unfollowed := true, recurses := true, apart := false }
def CfiModesSaid : Prop := cfiModesRow.holds Try.pinned (OpenSpec.ofChange cfiModesSpec)

/-- ITS FALSE NEIGHBOUR: 'it returns false'. Refute it at one input. -/
def cfiModesWrong : ChangeSpec := { name := "cfiModes", fn := fun _ => fun
  | [d1, d2] => { results := [.lit (.bool false)], args := [d1, d2] }
  | _ => none }
def CfiModesWrongFalsely : Prop := cfiModesRow.holds Try.pinned (OpenSpec.ofChange cfiModesWrong)

/-- 'dioptralaw03.CfiNobody': WHATEVER THE INPUT: true; the input reads as it did. -/
def cfiNobodySpec : ChangeSpec := { name := "cfiNobody", fn := fun _ => fun
  | [d1, d2] => { results := [.lit (.bool true)], args := [d1, d2] }
  | _ => none }
def cfiNobodyRow : OpenClaim := { program := "ythipemcggdibeaa", sum := "9308b87fc2d460328c74f3273115af5d6d81167c7e7877ed821ad87c42f21812", func := "dioptra/dioptralaw03.CfiNobody", spec := "cfiNobody", unfollowed := true, recurses := true, apart := false }
def CfiNobodySaid : Prop := cfiNobodyRow.holds Try.pinned (OpenSpec.ofChange cfiNobodySpec)

/-- ITS FALSE NEIGHBOUR: 'it returns false'. Refute it at one input. -/
def cfiNobodyWrong : ChangeSpec := { name := "cfiNobody", fn := fun _ => fun
  | [d1, d2] => { results := [.lit (.bool false)], args := [d1, d2] }
  | _ => none }
def CfiNobodyWrongFalsely : Prop := cfiNobodyRow.holds Try.pinned (OpenSpec.ofChange cfiNobodyWrong)

/-- 'dioptralaw03.CfiStill': WHATEVER THE INPUT: true; the input reads as it did. -/
def cfiStillSpec : ChangeSpec := { name := "cfiStill", fn := fun _ => fun
  | [d] => { results := [.lit (.bool true)], args := [d] }
  | _ => none }
def cfiStillRow : OpenClaim := { program := "ythipemcggdibeaa", sum := "9308b87fc2d460328c74f3273115af5d6d81167c7e7877ed821ad87c42f21812", func := "dioptra/dioptralaw03.CfiStill", spec := "cfiStill", unfollowed := true, recurses := true, apart := false }
def CfiStillSaid : Prop := cfiStillRow.holds Try.pinned (OpenSpec.ofChange cfiStillSpec)

/-- ITS FALSE NEIGHBOUR: 'it returns false'. Refute it at one input. -/
def cfiStillWrong : ChangeSpec := { name := "cfiStill", fn := fun _ => fun
  | [d] => { results := [.lit (.bool false)], args := [d] }
  | _ => none }
def CfiStillWrongFalsely : Prop := cfiStillRow.holds Try.pinned (OpenSpec.ofChange cfiStillWrong)

/-- 'dioptralaw03.CfiOrders': WHATEVER THE INPUT: true; the input reads as it did. -/
def cfiOrdersSpec : ChangeSpec := { name := "cfiOrders", fn := fun _ => fun
  | [d1, d2] => { results := [.lit (.bool true)], args := [d1, d2] }
  | _ => none }
def cfiOrdersRow : OpenClaim := { program := "ythipemcggdibeaa", sum := "9308b87fc2d460328c74f3273115af5d6d81167c7e7877ed821ad87c42f21812", func := "dioptra/dioptralaw03.CfiOrders", spec := "cfiOrders", unfollowed := true, recurses := true, apart := false }
def CfiOrdersSaid : Prop := cfiOrdersRow.holds Try.pinned (OpenSpec.ofChange cfiOrdersSpec)

/-- ITS FALSE NEIGHBOUR: 'it returns false'. Refute it at one input. -/
def cfiOrdersWrong : ChangeSpec := { name := "cfiOrders", fn := fun _ => fun
  | [d1, d2] => { results := [.lit (.bool false)], args := [d1, d2] }
  | _ => none }
def CfiOrdersWrongFalsely : Prop := cfiOrdersRow.holds Try.pinned (OpenSpec.ofChange cfiOrdersWrong)

/-- 'dioptralaw03.CfiLocks': WHATEVER THE INPUT: true; the input reads as it did. -/
def cfiLocksSpec : ChangeSpec := { name := "cfiLocks", fn := fun _ => fun
  | [d1, d2, d3] => { results := [.lit (.bool true)], args := [d1, d2, d3] }
  | _ => none }
def cfiLocksRow : OpenClaim := { program := "ythipemcggdibeaa", sum := "9308b87fc2d460328c74f3273115af5d6d81167c7e7877ed821ad87c42f21812", func := "dioptra/dioptralaw03.CfiLocks", spec := "cfiLocks", unfollowed := true, recurses := true, apart := false }
def CfiLocksSaid : Prop := cfiLocksRow.holds Try.pinned (OpenSpec.ofChange cfiLocksSpec)

/-- ITS FALSE NEIGHBOUR: 'it returns false'. Refute it at one input. -/
def cfiLocksWrong : ChangeSpec := { name := "cfiLocks", fn := fun _ => fun
  | [d1, d2, d3] => { results := [.lit (.bool false)], args := [d1, d2, d3] }
  | _ => none }
def CfiLocksWrongFalsely : Prop := cfiLocksRow.holds Try.pinned (OpenSpec.ofChange cfiLocksWrong)

/-- 'dioptralaw03.CfiJobs': WHATEVER THE INPUT: true; the input reads as it did. -/
def cfiJobsSpec : ChangeSpec := { name := "cfiJobs", fn := fun _ => fun
  | [d1, d2, d3] => { results := [.lit (.bool true)], args := [d1, d2, d3] }
  | _ => none }
def cfiJobsRow : OpenClaim := { program := "ythipemcggdibeaa", sum := "9308b87fc2d460328c74f3273115af5d6d81167c7e7877ed821ad87c42f21812", func := "dioptra/dioptralaw03.CfiJobs", spec := "cfiJobs", unfollowed := true, recurses := true, apart := false }
def CfiJobsSaid : Prop := cfiJobsRow.holds Try.pinned (OpenSpec.ofChange cfiJobsSpec)

/-- ITS FALSE NEIGHBOUR: 'it returns false'. Refute it at one input. -/
def cfiJobsWrong : ChangeSpec := { name := "cfiJobs", fn := fun _ => fun
  | [d1, d2, d3] => { results := [.lit (.bool false)], args := [d1, d2, d3] }
  | _ => none }
def CfiJobsWrongFalsely : Prop := cfiJobsRow.holds Try.pinned (OpenSpec.ofChange cfiJobsWrong)

/-- 'dioptralaw03.CfiActs': WHATEVER THE INPUT: true; the input reads as it did. -/
def cfiActsSpec : ChangeSpec := { name := "cfiActs", fn := fun _ => fun
  | [d1, d2] => { results := [.lit (.bool true)], args := [d1, d2] }
  | _ => none }
def cfiActsRow : OpenClaim := { program := "ythipemcggdibeaa", sum := "9308b87fc2d460328c74f3273115af5d6d81167c7e7877ed821ad87c42f21812", func := "dioptra/dioptralaw03.CfiActs", spec := "cfiActs", unfollowed := true, recurses := true, apart := false }
def CfiActsSaid : Prop := cfiActsRow.holds Try.pinned (OpenSpec.ofChange cfiActsSpec)

/-- ITS FALSE NEIGHBOUR: 'it returns false'. Refute it at one input. -/
def cfiActsWrong : ChangeSpec := { name := "cfiActs", fn := fun _ => fun
  | [d1, d2] => { results := [.lit (.bool false)], args := [d1, d2] }
  | _ => none }
def CfiActsWrongFalsely : Prop := cfiActsRow.holds Try.pinned (OpenSpec.ofChange cfiActsWrong)

/-- 'dioptralaw05.DriverErases': WHATEVER THE INPUT: true; the input reads as it did. -/
def driverErasesSpec : ChangeSpec := { name := "driverErases", fn := fun _ => fun
  | [d1, d2, d3] => { results := [.lit (.bool true)], args := [d1, d2, d3] }
  | _ => none }
def driverErasesRow : OpenClaim := { program := "ythipemcggdibeaa", sum := "9308b87fc2d460328c74f3273115af5d6d81167c7e7877ed821ad87c42f21812", func := "dioptra/dioptralaw05.DriverErases", spec := "driverErases", unfollowed := true, recurses := true, apart := false }
def DriverErasesSaid : Prop := driverErasesRow.holds Try.pinned (OpenSpec.ofChange driverErasesSpec)

/-- ITS FALSE NEIGHBOUR: 'it returns false'. Refute it at one input. -/
def driverErasesWrong : ChangeSpec := { name := "driverErases", fn := fun _ => fun
  | [d1, d2, d3] => { results := [.lit (.bool false)], args := [d1, d2, d3] }
  | _ => none }
def DriverErasesWrongFalsely : Prop := driverErasesRow.holds Try.pinned (OpenSpec.ofChange driverErasesWrong)

/-- 'dioptralaw05.DriverReads': WHATEVER THE INPUT: true; the input reads as it did. -/
def driverReadsSpec : ChangeSpec := { name := "driverReads", fn := fun _ => fun
  | [d1, d2, d3] => { results := [.lit (.bool true)], args := [d1, d2, d3] }
  | _ => none }
def driverReadsRow : OpenClaim := { program := "ythipemcggdibeaa", sum := "9308b87fc2d460328c74f3273115af5d6d81167c7e7877ed821ad87c42f21812", func := "dioptra/dioptralaw05.DriverReads", spec := "driverReads", unfollowed := true, recurses := true, apart := false }
def DriverReadsSaid : Prop := driverReadsRow.holds Try.pinned (OpenSpec.ofChange driverReadsSpec)

/-- ITS FALSE NEIGHBOUR: 'it returns false'. Refute it at one input. -/
def driverReadsWrong : ChangeSpec := { name := "driverReads", fn := fun _ => fun
  | [d1, d2, d3] => { results := [.lit (.bool false)], args := [d1, d2, d3] }
  | _ => none }
def DriverReadsWrongFalsely : Prop := driverReadsRow.holds Try.pinned (OpenSpec.ofChange driverReadsWrong)

/-- 'dioptralaw05.DriverNobody': WHATEVER THE INPUT: true; the input reads as it did. -/
def driverNobodySpec : ChangeSpec := { name := "driverNobody", fn := fun _ => fun
  | [d1, d2, d3] => { results := [.lit (.bool true)], args := [d1, d2, d3] }
  | _ => none }
def driverNobodyRow : OpenClaim := { program := "ythipemcggdibeaa", sum := "9308b87fc2d460328c74f3273115af5d6d81167c7e7877ed821ad87c42f21812", func := "dioptra/dioptralaw05.DriverNobody", spec := "driverNobody", unfollowed := true, recurses := true, apart := false }
def DriverNobodySaid : Prop := driverNobodyRow.holds Try.pinned (OpenSpec.ofChange driverNobodySpec)

/-- ITS FALSE NEIGHBOUR: 'it returns false'. Refute it at one input. -/
def driverNobodyWrong : ChangeSpec := { name := "driverNobody", fn := fun _ => fun
  | [d1, d2, d3] => { results := [.lit (.bool false)], args := [d1, d2, d3] }
  | _ => none }
def DriverNobodyWrongFalsely : Prop := driverNobodyRow.holds Try.pinned (OpenSpec.ofChange driverNobodyWrong)

/-- 'dioptralaw05.DriverStops': WHATEVER THE INPUT: true; the input reads as it did. -/
def driverStopsSpec : ChangeSpec := { name := "driverStops", fn := fun _ => fun
  | [d] => { results := [.lit (.bool true)], args := [d] }
  | _ => none }
def driverStopsRow : OpenClaim := { program := "ythipemcggdibeaa", sum := "9308b87fc2d460328c74f3273115af5d6d81167c7e7877ed821ad87c42f21812", func := "dioptra/dioptralaw05.DriverStops", spec := "driverStops", unfollowed := true, recurses := true, apart := false }
def DriverStopsSaid : Prop := driverStopsRow.holds Try.pinned (OpenSpec.ofChange driverStopsSpec)

/-- ITS FALSE NEIGHBOUR: 'it returns false'. Refute it at one input. -/
def driverStopsWrong : ChangeSpec := { name := "driverStops", fn := fun _ => fun
  | [d] => { results := [.lit (.bool false)], args := [d] }
  | _ => none }
def DriverStopsWrongFalsely : Prop := driverStopsRow.holds Try.pinned (OpenSpec.ofChange driverStopsWrong)

/-- 'dioptralaw05.DriverLocks': WHATEVER THE INPUT: true; the input reads as it did. -/
def driverLocksSpec : ChangeSpec := { name := "driverLocks", fn := fun _ => fun
  | [d1, d2, d3] => { results := [.lit (.bool true)], args := [d1, d2, d3] }
  | _ => none }
def driverLocksRow : OpenClaim := { program := "ythipemcggdibeaa", sum := "9308b87fc2d460328c74f3273115af5d6d81167c7e7877ed821ad87c42f21812", func := "dioptra/dioptralaw05.DriverLocks", spec := "driverLocks", unfollowed := true, recurses := true, apart := false }
def DriverLocksSaid : Prop := driverLocksRow.holds Try.pinned (OpenSpec.ofChange driverLocksSpec)

/-- ITS FALSE NEIGHBOUR: 'it returns false'. Refute it at one input. -/
def driverLocksWrong : ChangeSpec := { name := "driverLocks", fn := fun _ => fun
  | [d1, d2, d3] => { results := [.lit (.bool false)], args := [d1, d2, d3] }
  | _ => none }
def DriverLocksWrongFalsely : Prop := driverLocksRow.holds Try.pinned (OpenSpec.ofChange driverLocksWrong)

/-- 'dioptralaw05.DriverActs': WHATEVER THE INPUT: true; the input reads as it did. -/
def driverActsSpec : ChangeSpec := { name := "driverActs", fn := fun _ => fun
  | [d1, d2] => { results := [.lit (.bool true)], args := [d1, d2] }
  | _ => none }
def driverActsRow : OpenClaim := { program := "ythipemcggdibeaa", sum := "9308b87fc2d460328c74f3273115af5d6d81167c7e7877ed821ad87c42f21812", func := "dioptra/dioptralaw05.DriverActs", spec := "driverActs", unfollowed := true, recurses := true, apart := false }
def DriverActsSaid : Prop := driverActsRow.holds Try.pinned (OpenSpec.ofChange driverActsSpec)

/-- ITS FALSE NEIGHBOUR: 'it returns false'. Refute it at one input. -/
def driverActsWrong : ChangeSpec := { name := "driverActs", fn := fun _ => fun
  | [d1, d2] => { results := [.lit (.bool false)], args := [d1, d2] }
  | _ => none }
def DriverActsWrongFalsely : Prop := driverActsRow.holds Try.pinned (OpenSpec.ofChange driverActsWrong)

/- THE SECOND FORM. 'bulk': how many values and letters a reading holds, each counted each time it is reached (what is shared counts as often as it is met; a slice's spare places count too). A statement '..UptoSaid' is the law's where the arguments, and the package variables that the reading takes, are together of bulk at most 1048576: NARROWER than '..Said'. Prove '..Said' where nothing that the law and all that it calls make is longer than what came in: it says more and counts as full. Else prove '..UptoSaid'. A law counts once. -/
mutual
def uptoBulk {H : Type} : DataW H → Nat
  | .lit (.string bytes) => bytes.length + 1
  | .lit _ => 1
  | .nil => 1
  | .ptr d => uptoBulk d + 1
  | .slice elems spare => uptoBulkAll elems + uptoBulkAll spare + 1
  | .agg parts => uptoBulkAll parts + 1
  | .iface _ d => uptoBulk d + 1
  | .map entries => uptoBulkEntries entries + 1
  | .held _ => 1
def uptoBulkAll {H : Type} : List (DataW H) → Nat
  | [] => 0
  | d :: r => uptoBulk d + uptoBulkAll r
def uptoBulkEntries {H : Type} : List (Lit × DataW H) → Nat
  | [] => 0
  | x :: r => uptoBulkEntry x + uptoBulkEntries r
def uptoBulkEntry {H : Type} : Lit × DataW H → Nat
  | (.string bytes, d) => bytes.length + uptoBulk d + 1
  | (_, d) => uptoBulk d + 1
 end
def uptoSmall : (H : Type) → List (DataW H) → Bool := fun _ ds => decide (uptoBulkAll ds ≤ 1048576)
def OpenSpec.upto (s : _root_.Go.ChangeSpec) : _root_.Go.OpenSpec := { _root_.Go.OpenSpec.ofChange s with cond := some uptoSmall }

/-- 'dioptralaw02.NorWorn', WHERE WHAT IT READS IS OF BULK AT MOST 1048576: true; the input reads as it did. -/
def norWornUptoRow : OpenClaim := { program := "ythipemcggdibeaa", sum := "9308b87fc2d460328c74f3273115af5d6d81167c7e7877ed821ad87c42f21812", func := "dioptra/dioptralaw02.NorWorn", spec := "norWorn", unfollowed := true, recurses := true, apart := false, narrowed := true }
def NorWornUptoSaid : Prop := norWornUptoRow.holds Try.pinned (OpenSpec.upto norWornSpec)

/-- 'dioptralaw02.NorOf', WHERE WHAT IT READS IS OF BULK AT MOST 1048576: true; the input reads as it did. -/
def norOfUptoRow : OpenClaim := { program := "ythipemcggdibeaa", sum := "9308b87fc2d460328c74f3273115af5d6d81167c7e7877ed821ad87c42f21812", func := "dioptra/dioptralaw02.NorOf", spec := "norOf", unfollowed := true, recurses := true, apart := false, narrowed := true }
def NorOfUptoSaid : Prop := norOfUptoRow.holds Try.pinned (OpenSpec.upto norOfSpec)

/-- 'dioptralaw02.NorMeets', WHERE WHAT IT READS IS OF BULK AT MOST 1048576: true; the input reads as it did. -/
def norMeetsUptoRow : OpenClaim := { program := "ythipemcggdibeaa", sum := "9308b87fc2d460328c74f3273115af5d6d81167c7e7877ed821ad87c42f21812", func := "dioptra/dioptralaw02.NorMeets", spec := "norMeets", unfollowed := true, recurses := true, apart := false, narrowed := true }
def NorMeetsUptoSaid : Prop := norMeetsUptoRow.holds Try.pinned (OpenSpec.upto norMeetsSpec)

/-- 'dioptralaw02.NorFuses', WHERE WHAT IT READS IS OF BULK AT MOST 1048576: true; the input reads as it did. -/
def norFusesUptoRow : OpenClaim := { program := "ythipemcggdibeaa", sum := "9308b87fc2d460328c74f3273115af5d6d81167c7e7877ed821ad87c42f21812", func := "dioptra/dioptralaw02.NorFuses", spec := "norFuses", unfollowed := true, recurses := true, apart := false, narrowed := true }
def NorFusesUptoSaid : Prop := norFusesUptoRow.holds Try.pinned (OpenSpec.upto norFusesSpec)

/-- 'dioptralaw02.NorCells', WHERE WHAT IT READS IS OF BULK AT MOST 1048576: true; the input reads as it did. -/
def norCellsUptoRow : OpenClaim := { program := "ythipemcggdibeaa", sum := "9308b87fc2d460328c74f3273115af5d6d81167c7e7877ed821ad87c42f21812", func := "dioptra/dioptralaw02.NorCells", spec := "norCells", unfollowed := true, recurses := true, apart := false, narrowed := true }
def NorCellsUptoSaid : Prop := norCellsUptoRow.holds Try.pinned (OpenSpec.upto norCellsSpec)

/-- 'dioptralaw02.NorPart', WHERE WHAT IT READS IS OF BULK AT MOST 1048576: true; the input reads as it did. -/
def norPartUptoRow : OpenClaim := { program := "ythipemcggdibeaa", sum := "9308b87fc2d460328c74f3273115af5d6d81167c7e7877ed821ad87c42f21812", func := "dioptra/dioptralaw02.NorPart", spec := "norPart", unfollowed := true, recurses := true, apart := false, narrowed := true }
def NorPartUptoSaid : Prop := norPartUptoRow.holds Try.pinned (OpenSpec.upto norPartSpec)

/-- 'dioptralaw02.NorActs', WHERE WHAT IT READS IS OF BULK AT MOST 1048576: true; the input reads as it did. -/
def norActsUptoRow : OpenClaim := { program := "ythipemcggdibeaa", sum := "9308b87fc2d460328c74f3273115af5d6d81167c7e7877ed821ad87c42f21812", func := "dioptra/dioptralaw02.NorActs", spec := "norActs", unfollowed := true, recurses := true, apart := false, narrowed := true }
def NorActsUptoSaid : Prop := norActsUptoRow.holds Try.pinned (OpenSpec.upto norActsSpec)

/-- 'dioptralaw02.NorNobody', WHERE WHAT IT READS IS OF BULK AT MOST 1048576: true; the input reads as it did. -/
def norNobodyUptoRow : OpenClaim := { program := "ythipemcggdibeaa", sum := "9308b87fc2d460328c74f3273115af5d6d81167c7e7877ed821ad87c42f21812", func := "dioptra/dioptralaw02.NorNobody", spec := "norNobody", unfollowed := true, recurses := true, apart := false, narrowed := true }
def NorNobodyUptoSaid : Prop := norNobodyUptoRow.holds Try.pinned (OpenSpec.upto norNobodySpec)

/-- 'dioptralaw03.CfiModes', WHERE WHAT IT READS IS OF BULK AT MOST 1048576: true; the input reads as it did. -/
def cfiModesUptoRow : OpenClaim := { program := "ythipemcggdibeaa", sum := "9308b87fc2d460328c74f3273115af5d6d81167c7e7877ed821ad87c42f21812", func := "dioptra/dioptralaw03.CfiModes", spec := "cfiModes", unfollowed := true, recurses := true, apart := false, narrowed := true }
def CfiModesUptoSaid : Prop := cfiModesUptoRow.holds Try.pinned (OpenSpec.upto cfiModesSpec)

/-- 'dioptralaw03.CfiNobody', WHERE WHAT IT READS IS OF BULK AT MOST 1048576: true; the input reads as it did. -/
def cfiNobodyUptoRow : OpenClaim := { program := "ythipemcggdibeaa", sum := "9308b87fc2d460328c74f3273115af5d6d81167c7e7877ed821ad87c42f21812", func := "dioptra/dioptralaw03.CfiNobody", spec := "cfiNobody", unfollowed := true, recurses := true, apart := false, narrowed := true }
def CfiNobodyUptoSaid : Prop := cfiNobodyUptoRow.holds Try.pinned (OpenSpec.upto cfiNobodySpec)

/-- 'dioptralaw03.CfiStill', WHERE WHAT IT READS IS OF BULK AT MOST 1048576: true; the input reads as it did. -/
def cfiStillUptoRow : OpenClaim := { program := "ythipemcggdibeaa", sum := "9308b87fc2d460328c74f3273115af5d6d81167c7e7877ed821ad87c42f21812", func := "dioptra/dioptralaw03.CfiStill", spec := "cfiStill", unfollowed := true, recurses := true, apart := false, narrowed := true }
def CfiStillUptoSaid : Prop := cfiStillUptoRow.holds Try.pinned (OpenSpec.upto cfiStillSpec)

/-- 'dioptralaw03.CfiOrders', WHERE WHAT IT READS IS OF BULK AT MOST 1048576: true; the input reads as it did. -/
def cfiOrdersUptoRow : OpenClaim := { program := "ythipemcggdibeaa", sum := "9308b87fc2d460328c74f3273115af5d6d81167c7e7877ed821ad87c42f21812", func := "dioptra/dioptralaw03.CfiOrders", spec := "cfiOrders", unfollowed := true, recurses := true, apart := false, narrowed := true }
def CfiOrdersUptoSaid : Prop := cfiOrdersUptoRow.holds Try.pinned (OpenSpec.upto cfiOrdersSpec)

/-- 'dioptralaw03.CfiLocks', WHERE WHAT IT READS IS OF BULK AT MOST 1048576: true; the input reads as it did. -/
def cfiLocksUptoRow : OpenClaim := { program := "ythipemcggdibeaa", sum := "9308b87fc2d460328c74f3273115af5d6d81167c7e7877ed821ad87c42f21812", func := "dioptra/dioptralaw03.CfiLocks", spec := "cfiLocks", unfollowed := true, recurses := true, apart := false, narrowed := true }
def CfiLocksUptoSaid : Prop := cfiLocksUptoRow.holds Try.pinned (OpenSpec.upto cfiLocksSpec)

/-- 'dioptralaw03.CfiJobs', WHERE WHAT IT READS IS OF BULK AT MOST 1048576: true; the input reads as it did. -/
def cfiJobsUptoRow : OpenClaim := { program := "ythipemcggdibeaa", sum := "9308b87fc2d460328c74f3273115af5d6d81167c7e7877ed821ad87c42f21812", func := "dioptra/dioptralaw03.CfiJobs", spec := "cfiJobs", unfollowed := true, recurses := true, apart := false, narrowed := true }
def CfiJobsUptoSaid : Prop := cfiJobsUptoRow.holds Try.pinned (OpenSpec.upto cfiJobsSpec)

/-- 'dioptralaw03.CfiActs', WHERE WHAT IT READS IS OF BULK AT MOST 1048576: true; the input reads as it did. -/
def cfiActsUptoRow : OpenClaim := { program := "ythipemcggdibeaa", sum := "9308b87fc2d460328c74f3273115af5d6d81167c7e7877ed821ad87c42f21812", func := "dioptra/dioptralaw03.CfiActs", spec := "cfiActs", unfollowed := true, recurses := true, apart := false, narrowed := true }
def CfiActsUptoSaid : Prop := cfiActsUptoRow.holds Try.pinned (OpenSpec.upto cfiActsSpec)

/-- 'dioptralaw05.DriverErases', WHERE WHAT IT READS IS OF BULK AT MOST 1048576: true; the input reads as it did. -/
def driverErasesUptoRow : OpenClaim := { program := "ythipemcggdibeaa", sum := "9308b87fc2d460328c74f3273115af5d6d81167c7e7877ed821ad87c42f21812", func := "dioptra/dioptralaw05.DriverErases", spec := "driverErases", unfollowed := true, recurses := true, apart := false, narrowed := true }
def DriverErasesUptoSaid : Prop := driverErasesUptoRow.holds Try.pinned (OpenSpec.upto driverErasesSpec)

/-- 'dioptralaw05.DriverReads', WHERE WHAT IT READS IS OF BULK AT MOST 1048576: true; the input reads as it did. -/
def driverReadsUptoRow : OpenClaim := { program := "ythipemcggdibeaa", sum := "9308b87fc2d460328c74f3273115af5d6d81167c7e7877ed821ad87c42f21812", func := "dioptra/dioptralaw05.DriverReads", spec := "driverReads", unfollowed := true, recurses := true, apart := false, narrowed := true }
def DriverReadsUptoSaid : Prop := driverReadsUptoRow.holds Try.pinned (OpenSpec.upto driverReadsSpec)

/-- 'dioptralaw05.DriverNobody', WHERE WHAT IT READS IS OF BULK AT MOST 1048576: true; the input reads as it did. -/
def driverNobodyUptoRow : OpenClaim := { program := "ythipemcggdibeaa", sum := "9308b87fc2d460328c74f3273115af5d6d81167c7e7877ed821ad87c42f21812", func := "dioptra/dioptralaw05.DriverNobody", spec := "driverNobody", unfollowed := true, recurses := true, apart := false, narrowed := true }
def DriverNobodyUptoSaid : Prop := driverNobodyUptoRow.holds Try.pinned (OpenSpec.upto driverNobodySpec)

/-- 'dioptralaw05.DriverStops', WHERE WHAT IT READS IS OF BULK AT MOST 1048576: true; the input reads as it did. -/
def driverStopsUptoRow : OpenClaim := { program := "ythipemcggdibeaa", sum := "9308b87fc2d460328c74f3273115af5d6d81167c7e7877ed821ad87c42f21812", func := "dioptra/dioptralaw05.DriverStops", spec := "driverStops", unfollowed := true, recurses := true, apart := false, narrowed := true }
def DriverStopsUptoSaid : Prop := driverStopsUptoRow.holds Try.pinned (OpenSpec.upto driverStopsSpec)

/-- 'dioptralaw05.DriverLocks', WHERE WHAT IT READS IS OF BULK AT MOST 1048576: true; the input reads as it did. -/
def driverLocksUptoRow : OpenClaim := { program := "ythipemcggdibeaa", sum := "9308b87fc2d460328c74f3273115af5d6d81167c7e7877ed821ad87c42f21812", func := "dioptra/dioptralaw05.DriverLocks", spec := "driverLocks", unfollowed := true, recurses := true, apart := false, narrowed := true }
def DriverLocksUptoSaid : Prop := driverLocksUptoRow.holds Try.pinned (OpenSpec.upto driverLocksSpec)

/-- 'dioptralaw05.DriverActs', WHERE WHAT IT READS IS OF BULK AT MOST 1048576: true; the input reads as it did. -/
def driverActsUptoRow : OpenClaim := { program := "ythipemcggdibeaa", sum := "9308b87fc2d460328c74f3273115af5d6d81167c7e7877ed821ad87c42f21812", func := "dioptra/dioptralaw05.DriverActs", spec := "driverActs", unfollowed := true, recurses := true, apart := false, narrowed := true }
def DriverActsUptoSaid : Prop := driverActsUptoRow.holds Try.pinned (OpenSpec.upto driverActsSpec)

end Rows
end Go.Proofs.Ythipemcggdibeaa

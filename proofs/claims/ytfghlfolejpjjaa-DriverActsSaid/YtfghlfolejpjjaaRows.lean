/-
  No cell of these rows narrows 'for every input' (looked for: loops, veiled, ifaces, maps, wideKeys, modest, calm, conditions, laid).
  DERIVED. THE GIVEN ROWS OF THIS SEAT. 6 by the template 'for every input the law returns true; each argument reads behind the call as it read before'; 0 by the template 'total and deterministic' (their statements: YtfghlfolejpjjaaTotals.lean).
  GIVEN WITH THE SEED: the statements are not yours to turn. If you find one false, say at which input.
  Laid BY PROGRAM, IN A SANDBOX (cutbox-rows.mjs): the forced cells as the released guide's own fill.sh prints them over the translation 09ff4491c9b46cd5… (all of the seat's roots in one cut). By AI agents, Wed Nov 11 2026. No macro, syntax, notation, axiom, sorry.
-/
import Derived.Test.YtfghlfolejpjjaaChecked
import GoSem.Claim
import GoSem.ClaimJoined
import GoSem.ClaimMapViews
import Derived.JoinedTies
import Derived.KernelRfl
namespace Go.Proofs.Ytfghlfolejpjjaa
/- THE CELL 'sum', in the pinned program and in every row, IS THE sha256 OF THE DUMP (.gsa) THAT YtfghlfolejpjjaaProg.lean LOADS. Nothing in Lean hashes anything: it is a label: what it is worth is what the hold of that sum in a sandbox is worth. -/
noncomputable def Try.pinned : Pinned := { name := "ytfghlfolejpjjaa", sum := "09ff4491c9b46cd5e2402cf5da1d05f41a2daefe0048f514d23ff57db56816a9", checked := Try.checked }
namespace Rows
def none {H : Type} : Left H := { results := [], args := [] }

/-- 'dioptralaw05.DriverErases': WHATEVER THE INPUT: true; the input reads as it did. -/
def driverErasesSpec : ChangeSpec := { name := "driverErases", fn := fun _ => fun
  | [d1, d2, d3] => { results := [.lit (.bool true)], args := [d1, d2, d3] }
  | _ => none }
def driverErasesRow : OpenClaim := { program := "ytfghlfolejpjjaa", sum := "09ff4491c9b46cd5e2402cf5da1d05f41a2daefe0048f514d23ff57db56816a9", func := "dioptra/dioptralaw05.DriverErases", spec := "driverErases", unfollowed := true, recurses := true, apart := false }
def DriverErasesSaid : Prop := driverErasesRow.holds Try.pinned (OpenSpec.ofChange driverErasesSpec)

/-- ITS FALSE NEIGHBOUR: 'it returns false'. Refute it at one input. -/
def driverErasesWrong : ChangeSpec := { name := "driverErases", fn := fun _ => fun
  | [d1, d2, d3] => { results := [.lit (.bool false)], args := [d1, d2, d3] }
  | _ => none }
def DriverErasesWrongFalsely : Prop := driverErasesRow.holds Try.pinned (OpenSpec.ofChange driverErasesWrong)

/-- 'dioptralaw05.DriverReads': WHATEVER THE INPUT: true; the input reads as it did. -/
def driverReadsSpec : ChangeSpec := { name := "driverReads", fn := fun _ => fun
  | [d1, d2, d3] => { results := [.lit (.bool true)], args := [d1, d2, d3] }
  | _ => none }
def driverReadsRow : OpenClaim := { program := "ytfghlfolejpjjaa", sum := "09ff4491c9b46cd5e2402cf5da1d05f41a2daefe0048f514d23ff57db56816a9", func := "dioptra/dioptralaw05.DriverReads", spec := "driverReads", unfollowed := true, recurses := true, apart := false }
def DriverReadsSaid : Prop := driverReadsRow.holds Try.pinned (OpenSpec.ofChange driverReadsSpec)

/-- ITS FALSE NEIGHBOUR: 'it returns false'. Refute it at one input. -/
def driverReadsWrong : ChangeSpec := { name := "driverReads", fn := fun _ => fun
  | [d1, d2, d3] => { results := [.lit (.bool false)], args := [d1, d2, d3] }
  | _ => none }
def DriverReadsWrongFalsely : Prop := driverReadsRow.holds Try.pinned (OpenSpec.ofChange driverReadsWrong)

/-- 'dioptralaw05.DriverNobody': WHATEVER THE INPUT: true; the input reads as it did. -/
def driverNobodySpec : ChangeSpec := { name := "driverNobody", fn := fun _ => fun
  | [d1, d2, d3] => { results := [.lit (.bool true)], args := [d1, d2, d3] }
  | _ => none }
def driverNobodyRow : OpenClaim := { program := "ytfghlfolejpjjaa", sum := "09ff4491c9b46cd5e2402cf5da1d05f41a2daefe0048f514d23ff57db56816a9", func := "dioptra/dioptralaw05.DriverNobody", spec := "driverNobody", unfollowed := true, recurses := true, apart := false }
def DriverNobodySaid : Prop := driverNobodyRow.holds Try.pinned (OpenSpec.ofChange driverNobodySpec)

/-- ITS FALSE NEIGHBOUR: 'it returns false'. Refute it at one input. -/
def driverNobodyWrong : ChangeSpec := { name := "driverNobody", fn := fun _ => fun
  | [d1, d2, d3] => { results := [.lit (.bool false)], args := [d1, d2, d3] }
  | _ => none }
def DriverNobodyWrongFalsely : Prop := driverNobodyRow.holds Try.pinned (OpenSpec.ofChange driverNobodyWrong)

/-- 'dioptralaw05.DriverStops': WHATEVER THE INPUT: true; the input reads as it did. -/
def driverStopsSpec : ChangeSpec := { name := "driverStops", fn := fun _ => fun
  | [d] => { results := [.lit (.bool true)], args := [d] }
  | _ => none }
def driverStopsRow : OpenClaim := { program := "ytfghlfolejpjjaa", sum := "09ff4491c9b46cd5e2402cf5da1d05f41a2daefe0048f514d23ff57db56816a9", func := "dioptra/dioptralaw05.DriverStops", spec := "driverStops", unfollowed := true, recurses := true, apart := false }
def DriverStopsSaid : Prop := driverStopsRow.holds Try.pinned (OpenSpec.ofChange driverStopsSpec)

/-- ITS FALSE NEIGHBOUR: 'it returns false'. Refute it at one input. -/
def driverStopsWrong : ChangeSpec := { name := "driverStops", fn := fun _ => fun
  | [d] => { results := [.lit (.bool false)], args := [d] }
  | _ => none }
def DriverStopsWrongFalsely : Prop := driverStopsRow.holds Try.pinned (OpenSpec.ofChange driverStopsWrong)

/-- 'dioptralaw05.DriverLocks': WHATEVER THE INPUT: true; the input reads as it did. -/
def driverLocksSpec : ChangeSpec := { name := "driverLocks", fn := fun _ => fun
  | [d1, d2, d3] => { results := [.lit (.bool true)], args := [d1, d2, d3] }
  | _ => none }
def driverLocksRow : OpenClaim := { program := "ytfghlfolejpjjaa", sum := "09ff4491c9b46cd5e2402cf5da1d05f41a2daefe0048f514d23ff57db56816a9", func := "dioptra/dioptralaw05.DriverLocks", spec := "driverLocks", unfollowed := true, recurses := true, apart := false }
def DriverLocksSaid : Prop := driverLocksRow.holds Try.pinned (OpenSpec.ofChange driverLocksSpec)

/-- ITS FALSE NEIGHBOUR: 'it returns false'. Refute it at one input. -/
def driverLocksWrong : ChangeSpec := { name := "driverLocks", fn := fun _ => fun
  | [d1, d2, d3] => { results := [.lit (.bool false)], args := [d1, d2, d3] }
  | _ => none }
def DriverLocksWrongFalsely : Prop := driverLocksRow.holds Try.pinned (OpenSpec.ofChange driverLocksWrong)

/-- 'dioptralaw05.DriverActs': WHATEVER THE INPUT: true; the input reads as it did. -/
def driverActsSpec : ChangeSpec := { name := "driverActs", fn := fun _ => fun
  | [d1, d2] => { results := [.lit (.bool true)], args := [d1, d2] }
  | _ => none }
def driverActsRow : OpenClaim := { program := "ytfghlfolejpjjaa", sum := "09ff4491c9b46cd5e2402cf5da1d05f41a2daefe0048f514d23ff57db56816a9", func := "dioptra/dioptralaw05.DriverActs", spec := "driverActs", unfollowed := true, recurses := true, apart := false }
def DriverActsSaid : Prop := driverActsRow.holds Try.pinned (OpenSpec.ofChange driverActsSpec)

/-- ITS FALSE NEIGHBOUR: 'it returns false'. Refute it at one input. -/
def driverActsWrong : ChangeSpec := { name := "driverActs", fn := fun _ => fun
  | [d1, d2] => { results := [.lit (.bool false)], args := [d1, d2] }
  | _ => none }
def DriverActsWrongFalsely : Prop := driverActsRow.holds Try.pinned (OpenSpec.ofChange driverActsWrong)

/- THE SECOND FORM. 'bulk': how many values and letters a reading holds, each counted each time it is reached (what is shared counts as often as it is met; a slice's spare places count too). A statement '..UptoSaid' is the law's where the arguments, and the package variables that the reading takes, are together of bulk at most 1048576: NARROWER than '..Said'. Prove '..Said' where nothing that the law and all that it calls make is longer than what came in: it says more and counts as full. Else prove '..UptoSaid'. A law counts once. -/
mutual
def uptoBulk {H : Type} : DataW H → Nat
  | .lit (.string bytes) => bytes.length + 1
  | .lit _ => 1
  | .nil => 1
  | .ptr d => uptoBulk d + 1
  | .slice elems spare => uptoBulkAll elems + uptoBulkAll spare + 1
  | .agg parts => uptoBulkAll parts + 1
  | .iface _ d => uptoBulk d + 1
  | .map entries => uptoBulkEntries entries + 1
  | .held _ => 1
def uptoBulkAll {H : Type} : List (DataW H) → Nat
  | [] => 0
  | d :: r => uptoBulk d + uptoBulkAll r
def uptoBulkEntries {H : Type} : List (Lit × DataW H) → Nat
  | [] => 0
  | x :: r => uptoBulkEntry x + uptoBulkEntries r
def uptoBulkEntry {H : Type} : Lit × DataW H → Nat
  | (.string bytes, d) => bytes.length + uptoBulk d + 1
  | (_, d) => uptoBulk d + 1
 end
def uptoSmall : (H : Type) → List (DataW H) → Bool := fun _ ds => decide (uptoBulkAll ds ≤ 1048576)
def OpenSpec.upto (s : _root_.Go.ChangeSpec) : _root_.Go.OpenSpec := { _root_.Go.OpenSpec.ofChange s with cond := some uptoSmall }

/-- 'dioptralaw05.DriverErases', WHERE WHAT IT READS IS OF BULK AT MOST 1048576: true; the input reads as it did. -/
def driverErasesUptoRow : OpenClaim := { program := "ytfghlfolejpjjaa", sum := "09ff4491c9b46cd5e2402cf5da1d05f41a2daefe0048f514d23ff57db56816a9", func := "dioptra/dioptralaw05.DriverErases", spec := "driverErases", unfollowed := true, recurses := true, apart := false, narrowed := true }
def DriverErasesUptoSaid : Prop := driverErasesUptoRow.holds Try.pinned (OpenSpec.upto driverErasesSpec)

/-- 'dioptralaw05.DriverReads', WHERE WHAT IT READS IS OF BULK AT MOST 1048576: true; the input reads as it did. -/
def driverReadsUptoRow : OpenClaim := { program := "ytfghlfolejpjjaa", sum := "09ff4491c9b46cd5e2402cf5da1d05f41a2daefe0048f514d23ff57db56816a9", func := "dioptra/dioptralaw05.DriverReads", spec := "driverReads", unfollowed := true, recurses := true, apart := false, narrowed := true }
def DriverReadsUptoSaid : Prop := driverReadsUptoRow.holds Try.pinned (OpenSpec.upto driverReadsSpec)

/-- 'dioptralaw05.DriverNobody', WHERE WHAT IT READS IS OF BULK AT MOST 1048576: true; the input reads as it did. -/
def driverNobodyUptoRow : OpenClaim := { program := "ytfghlfolejpjjaa", sum := "09ff4491c9b46cd5e2402cf5da1d05f41a2daefe0048f514d23ff57db56816a9", func := "dioptra/dioptralaw05.DriverNobody", spec := "driverNobody", unfollowed := true, recurses := true, apart := false, narrowed := true }
def DriverNobodyUptoSaid : Prop := driverNobodyUptoRow.holds Try.pinned (OpenSpec.upto driverNobodySpec)

/-- 'dioptralaw05.DriverStops', WHERE WHAT IT READS IS OF BULK AT MOST 1048576: true; the input reads as it did. -/
def driverStopsUptoRow : OpenClaim := { program := "ytfghlfolejpjjaa", sum := "09ff4491c9b46cd5e2402cf5da1d05f41a2daefe0048f514d23ff57db56816a9", func := "dioptra/dioptralaw05.DriverStops", spec := "driverStops", unfollowed := true, recurses := true, apart := false, narrowed := true }
def DriverStopsUptoSaid : Prop := driverStopsUptoRow.holds Try.pinned (OpenSpec.upto driverStopsSpec)

/-- 'dioptralaw05.DriverLocks', WHERE WHAT IT READS IS OF BULK AT MOST 1048576: true; the input reads as it did. -/
def driverLocksUptoRow : OpenClaim := { program := "ytfghlfolejpjjaa", sum := "09ff4491c9b46cd5e2402cf5da1d05f41a2daefe0048f514d23ff57db56816a9", func := "dioptra/dioptralaw05.DriverLocks", spec := "driverLocks", unfollowed := true, recurses := true, apart := false, narrowed := true }
def DriverLocksUptoSaid : Prop := driverLocksUptoRow.holds Try.pinned (OpenSpec.upto driverLocksSpec)

/-- 'dioptralaw05.DriverActs', WHERE WHAT IT READS IS OF BULK AT MOST 1048576: true; the input reads as it did. -/
def driverActsUptoRow : OpenClaim := { program := "ytfghlfolejpjjaa", sum := "09ff4491c9b46cd5e2402cf5da1d05f41a2daefe0048f514d23ff57db56816a9", func := "dioptra/dioptralaw05.DriverActs", spec := "driverActs", unfollowed := true, recurses := true, apart := false, narrowed := true }
def DriverActsUptoSaid : Prop := driverActsUptoRow.holds Try.pinned (OpenSpec.upto driverActsSpec)

end Rows
end Go.Proofs.Ytfghlfolejpjjaa

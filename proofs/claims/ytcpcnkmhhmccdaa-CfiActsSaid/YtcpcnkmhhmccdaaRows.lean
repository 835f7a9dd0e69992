/-
  No cell of these rows narrows 'for every input' (looked for: loops, veiled, ifaces, maps, wideKeys, modest, calm, conditions, laid).
  DERIVED. THE GIVEN ROWS OF THIS SEAT. 7 by the template 'for every input the law returns true; each argument reads behind the call as it read before'; 0 by the template 'total and deterministic' (their statements: YtcpcnkmhhmccdaaTotals.lean).
  GIVEN WITH THE SEED: the statements are not yours to turn. If you find one false, say at which input.
  Laid BY PROGRAM, IN A SANDBOX (cutbox-rows.mjs): the forced cells as the released guide's own fill.sh prints them over the translation e4383cf7871d0a60… (all of the seat's roots in one cut). By AI agents, Wed Nov 11 2026. No macro, syntax, notation, axiom, sorry.
-/
import Derived.Test.YtcpcnkmhhmccdaaChecked
import GoSem.Claim
import GoSem.ClaimJoined
import GoSem.ClaimMapViews
import Derived.JoinedTies
import Derived.KernelRfl
namespace Go.Proofs.Ytcpcnkmhhmccdaa
/- THE CELL 'sum', in the pinned program and in every row, IS THE sha256 OF THE DUMP (.gsa) THAT YtcpcnkmhhmccdaaProg.lean LOADS. Nothing in Lean hashes anything: it is a label: what it is worth is what the hold of that sum in a sandbox is worth. -/
noncomputable def Try.pinned : Pinned := { name := "ytcpcnkmhhmccdaa", sum := "e4383cf7871d0a6020f8a0e6dd7a6cdbb93d6607a9effec94e8e439936c9c7a1", checked := Try.checked }
namespace Rows
def none {H : Type} : Left H := { results := [], args := [] }

/-- 'dioptralaw03.CfiModes': WHATEVER THE INPUT: true; the input reads as it did. -/
def cfiModesSpec : ChangeSpec := { name := "cfiModes", fn := fun _ => fun
  | [d1, d2] => { results := [.lit (.bool true)], args := [d1, d2] }
  | _ => none }
def cfiModesRow : OpenClaim := { program := "ytcpcnkmhhmccdaa", sum := "e4383cf7871d0a6020f8a0e6dd7a6cdbb93d6607a9effec94e8e439936c9c7a1", func := "dioptra/dioptralaw03.CfiModes", spec := "cfiModes", unfollowed := true, recurses := true, apart := false }
def CfiModesSaid : Prop := cfiModesRow.holds Try.pinned (OpenSpec.ofChange cfiModesSpec)

/-- ITS FALSE NEIGHBOUR: 'it returns false'. Refute it at one input. -/
def cfiModesWrong : ChangeSpec := { name := "cfiModes", fn := fun _ => fun
  | [d1, d2] => { results := [.lit (.bool false)], args := [d1, d2] }
  | _ => none }
def CfiModesWrongFalsely : Prop := cfiModesRow.holds Try.pinned (OpenSpec.ofChange cfiModesWrong)

/-- 'dioptralaw03.CfiNobody': WHATEVER THE INPUT: true; the input reads as it did. -/
def cfiNobodySpec : ChangeSpec := { name := "cfiNobody", fn := fun _ => fun
  | [d1, d2] => { results := [.lit (.bool true)], args := [d1, d2] }
  | _ => none }
def cfiNobodyRow : OpenClaim := { program := "ytcpcnkmhhmccdaa", sum := "e4383cf7871d0a6020f8a0e6dd7a6cdbb93d6607a9effec94e8e439936c9c7a1", func := "dioptra/dioptralaw03.CfiNobody", spec := "cfiNobody", unfollowed := true, recurses := true, apart := false }
def CfiNobodySaid : Prop := cfiNobodyRow.holds Try.pinned (OpenSpec.ofChange cfiNobodySpec)

/-- ITS FALSE NEIGHBOUR: 'it returns false'. Refute it at one input. -/
def cfiNobodyWrong : ChangeSpec := { name := "cfiNobody", fn := fun _ => fun
  | [d1, d2] => { results := [.lit (.bool false)], args := [d1, d2] }
  | _ => none }
def CfiNobodyWrongFalsely : Prop := cfiNobodyRow.holds Try.pinned (OpenSpec.ofChange cfiNobodyWrong)

/-- 'dioptralaw03.CfiStill': WHATEVER THE INPUT: true; the input reads as it did. -/
def cfiStillSpec : ChangeSpec := { name := "cfiStill", fn := fun _ => fun
  | [d] => { results := [.lit (.bool true)], args := [d] }
  | _ => none }
def cfiStillRow : OpenClaim := { program := "ytcpcnkmhhmccdaa", sum := "e4383cf7871d0a6020f8a0e6dd7a6cdbb93d6607a9effec94e8e439936c9c7a1", func := "dioptra/dioptralaw03.CfiStill", spec := "cfiStill", unfollowed := true, recurses := true, apart := false }
def CfiStillSaid : Prop := cfiStillRow.holds Try.pinned (OpenSpec.ofChange cfiStillSpec)

/-- ITS FALSE NEIGHBOUR: 'it returns false'. Refute it at one input. -/
def cfiStillWrong : ChangeSpec := { name := "cfiStill", fn := fun _ => fun
  | [d] => { results := [.lit (.bool false)], args := [d] }
  | _ => none }
def CfiStillWrongFalsely : Prop := cfiStillRow.holds Try.pinned (OpenSpec.ofChange cfiStillWrong)

/-- 'dioptralaw03.CfiOrders': WHATEVER THE INPUT: true; the input reads as it did. -/
def cfiOrdersSpec : ChangeSpec := { name := "cfiOrders", fn := fun _ => fun
  | [d1, d2] => { results := [.lit (.bool true)], args := [d1, d2] }
  | _ => none }
def cfiOrdersRow : OpenClaim := { program := "ytcpcnkmhhmccdaa", sum := "e4383cf7871d0a6020f8a0e6dd7a6cdbb93d6607a9effec94e8e439936c9c7a1", func := "dioptra/dioptralaw03.CfiOrders", spec := "cfiOrders", unfollowed := true, recurses := true, apart := false }
def CfiOrdersSaid : Prop := cfiOrdersRow.holds Try.pinned (OpenSpec.ofChange cfiOrdersSpec)

/-- ITS FALSE NEIGHBOUR: 'it returns false'. Refute it at one input. -/
def cfiOrdersWrong : ChangeSpec := { name := "cfiOrders", fn := fun _ => fun
  | [d1, d2] => { results := [.lit (.bool false)], args := [d1, d2] }
  | _ => none }
def CfiOrdersWrongFalsely : Prop := cfiOrdersRow.holds Try.pinned (OpenSpec.ofChange cfiOrdersWrong)

/-- 'dioptralaw03.CfiLocks': WHATEVER THE INPUT: true; the input reads as it did. -/
def cfiLocksSpec : ChangeSpec := { name := "cfiLocks", fn := fun _ => fun
  | [d1, d2, d3] => { results := [.lit (.bool true)], args := [d1, d2, d3] }
  | _ => none }
def cfiLocksRow : OpenClaim := { program := "ytcpcnkmhhmccdaa", sum := "e4383cf7871d0a6020f8a0e6dd7a6cdbb93d6607a9effec94e8e439936c9c7a1", func := "dioptra/dioptralaw03.CfiLocks", spec := "cfiLocks", unfollowed := true, recurses := true, apart := false }
def CfiLocksSaid : Prop := cfiLocksRow.holds Try.pinned (OpenSpec.ofChange cfiLocksSpec)

/-- ITS FALSE NEIGHBOUR: 'it returns false'. Refute it at one input. -/
def cfiLocksWrong : ChangeSpec := { name := "cfiLocks", fn := fun _ => fun
  | [d1, d2, d3] => { results := [.lit (.bool false)], args := [d1, d2, d3] }
  | _ => none }
def CfiLocksWrongFalsely : Prop := cfiLocksRow.holds Try.pinned (OpenSpec.ofChange cfiLocksWrong)

/-- 'dioptralaw03.CfiJobs': WHATEVER THE INPUT: true; the input reads as it did. -/
def cfiJobsSpec : ChangeSpec := { name := "cfiJobs", fn := fun _ => fun
  | [d1, d2, d3] => { results := [.lit (.bool true)], args := [d1, d2, d3] }
  | _ => none }
def cfiJobsRow : OpenClaim := { program := "ytcpcnkmhhmccdaa", sum := "e4383cf7871d0a6020f8a0e6dd7a6cdbb93d6607a9effec94e8e439936c9c7a1", func := "dioptra/dioptralaw03.CfiJobs", spec := "cfiJobs", unfollowed := true, recurses := true, apart := false }
def CfiJobsSaid : Prop := cfiJobsRow.holds Try.pinned (OpenSpec.ofChange cfiJobsSpec)

/-- ITS FALSE NEIGHBOUR: 'it returns false'. Refute it at one input. -/
def cfiJobsWrong : ChangeSpec := { name := "cfiJobs", fn := fun _ => fun
  | [d1, d2, d3] => { results := [.lit (.bool false)], args := [d1, d2, d3] }
  | _ => none }
def CfiJobsWrongFalsely : Prop := cfiJobsRow.holds Try.pinned (OpenSpec.ofChange cfiJobsWrong)

/-- 'dioptralaw03.CfiActs': WHATEVER THE INPUT: true; the input reads as it did. -/
def cfiActsSpec : ChangeSpec := { name := "cfiActs", fn := fun _ => fun
  | [d1, d2] => { results := [.lit (.bool true)], args := [d1, d2] }
  | _ => none }
def cfiActsRow : OpenClaim := { program := "ytcpcnkmhhmccdaa", sum := "e4383cf7871d0a6020f8a0e6dd7a6cdbb93d6607a9effec94e8e439936c9c7a1", func := "dioptra/dioptralaw03.CfiActs", spec := "cfiActs", unfollowed := true, recurses := true, apart := false }
def CfiActsSaid : Prop := cfiActsRow.holds Try.pinned (OpenSpec.ofChange cfiActsSpec)

/-- ITS FALSE NEIGHBOUR: 'it returns false'. Refute it at one input. -/
def cfiActsWrong : ChangeSpec := { name := "cfiActs", fn := fun _ => fun
  | [d1, d2] => { results := [.lit (.bool false)], args := [d1, d2] }
  | _ => none }
def CfiActsWrongFalsely : Prop := cfiActsRow.holds Try.pinned (OpenSpec.ofChange cfiActsWrong)

/- THE SECOND FORM. 'bulk': how many values and letters a reading holds, each counted each time it is reached (what is shared counts as often as it is met; a slice's spare places count too). A statement '..UptoSaid' is the law's where the arguments, and the package variables that the reading takes, are together of bulk at most 1048576: NARROWER than '..Said'. Prove '..Said' where nothing that the law and all that it calls make is longer than what came in: it says more and counts as full. Else prove '..UptoSaid'. A law counts once. -/
mutual
def uptoBulk {H : Type} : DataW H → Nat
  | .lit (.string bytes) => bytes.length + 1
  | .lit _ => 1
  | .nil => 1
  | .ptr d => uptoBulk d + 1
  | .slice elems spare => uptoBulkAll elems + uptoBulkAll spare + 1
  | .agg parts => uptoBulkAll parts + 1
  | .iface _ d => uptoBulk d + 1
  | .map entries => uptoBulkEntries entries + 1
  | .held _ => 1
def uptoBulkAll {H : Type} : List (DataW H) → Nat
  | [] => 0
  | d :: r => uptoBulk d + uptoBulkAll r
def uptoBulkEntries {H : Type} : List (Lit × DataW H) → Nat
  | [] => 0
  | x :: r => uptoBulkEntry x + uptoBulkEntries r
def uptoBulkEntry {H : Type} : Lit × DataW H → Nat
  | (.string bytes, d) => bytes.length + uptoBulk d + 1
  | (_, d) => uptoBulk d + 1
 end
def uptoSmall : (H : Type) → List (DataW H) → Bool := fun _ ds => decide (uptoBulkAll ds ≤ 1048576)
def OpenSpec.upto (s : _root_.Go.ChangeSpec) : _root_.Go.OpenSpec := { _root_.Go.OpenSpec.ofChange s with cond := some uptoSmall }

/-- 'dioptralaw03.CfiModes', WHERE WHAT IT READS IS OF BULK AT MOST 1048576: true; the input reads as it did. -/
def cfiModesUptoRow : OpenClaim := { program := "ytcpcnkmhhmccdaa", sum := "e4383cf7871d0a6020f8a0e6dd7a6cdbb93d6607a9effec94e8e439936c9c7a1", func := "dioptra/dioptralaw03.CfiModes", spec := "cfiModes", unfollowed := true, recurses := true, apart := false, narrowed := true }
def CfiModesUptoSaid : Prop := cfiModesUptoRow.holds Try.pinned (OpenSpec.upto cfiModesSpec)

/-- 'dioptralaw03.CfiNobody', WHERE WHAT IT READS IS OF BULK AT MOST 1048576: true; the input reads as it did. -/
def cfiNobodyUptoRow : OpenClaim := { program := "ytcpcnkmhhmccdaa", sum := "e4383cf7871d0a6020f8a0e6dd7a6cdbb93d6607a9effec94e8e439936c9c7a1", func := "dioptra/dioptralaw03.CfiNobody", spec := "cfiNobody", unfollowed := true, recurses := true, apart := false, narrowed := true }
def CfiNobodyUptoSaid : Prop := cfiNobodyUptoRow.holds Try.pinned (OpenSpec.upto cfiNobodySpec)

/-- 'dioptralaw03.CfiStill', WHERE WHAT IT READS IS OF BULK AT MOST 1048576: true; the input reads as it did. -/
def cfiStillUptoRow : OpenClaim := { program := "ytcpcnkmhhmccdaa", sum := "e4383cf7871d0a6020f8a0e6dd7a6cdbb93d6607a9effec94e8e439936c9c7a1", func := "dioptra/dioptralaw03.CfiStill", spec := "cfiStill", unfollowed := true, recurses := true, apart := false, narrowed := true }
def CfiStillUptoSaid : Prop := cfiStillUptoRow.holds Try.pinned (OpenSpec.upto cfiStillSpec)

/-- 'dioptralaw03.CfiOrders', WHERE WHAT IT READS IS OF BULK AT MOST 1048576: true; the input reads as it did. -/
def cfiOrdersUptoRow : OpenClaim := { program := "ytcpcnkmhhmccdaa", sum := "e4383cf7871d0a6020f8a0e6dd7a6cdbb93d6607a9effec94e8e439936c9c7a1", func := "dioptra/dioptralaw03.CfiOrders", spec := "cfiOrders", unfollowed := true, recurses := true, apart := false, narrowed := true }
def CfiOrdersUptoSaid : Prop := cfiOrdersUptoRow.holds Try.pinned (OpenSpec.upto cfiOrdersSpec)

/-- 'dioptralaw03.CfiLocks', WHERE WHAT IT READS IS OF BULK AT MOST 1048576: true; the input reads as it did. -/
def cfiLocksUptoRow : OpenClaim := { program := "ytcpcnkmhhmccdaa", sum := "e4383cf7871d0a6020f8a0e6dd7a6cdbb93d6607a9effec94e8e439936c9c7a1", func := "dioptra/dioptralaw03.CfiLocks", spec := "cfiLocks", unfollowed := true, recurses := true, apart := false, narrowed := true }
def CfiLocksUptoSaid : Prop := cfiLocksUptoRow.holds Try.pinned (OpenSpec.upto cfiLocksSpec)

/-- 'dioptralaw03.CfiJobs', WHERE WHAT IT READS IS OF BULK AT MOST 1048576: true; the input reads as it did. -/
def cfiJobsUptoRow : OpenClaim := { program := "ytcpcnkmhhmccdaa", sum := "e4383cf7871d0a6020f8a0e6dd7a6cdbb93d6607a9effec94e8e439936c9c7a1", func := "dioptra/dioptralaw03.CfiJobs", spec := "cfiJobs", unfollowed := true, recurses := true, apart := false, narrowed := true }
def CfiJobsUptoSaid : Prop := cfiJobsUptoRow.holds Try.pinned (OpenSpec.upto cfiJobsSpec)

/-- 'dioptralaw03.CfiActs', WHERE WHAT IT READS IS OF BULK AT MOST 1048576: true; the input reads as it did. -/
def cfiActsUptoRow : OpenClaim := { program := "ytcpcnkmhhmccdaa", sum := "e4383cf7871d0a6020f8a0e6dd7a6cdbb93d6607a9effec94e8e439936c9c7a1", func := "dioptra/dioptralaw03.CfiActs", spec := "cfiActs", unfollowed := true, recurses := true, apart := false, narrowed := true }
def CfiActsUptoSaid : Prop := cfiActsUptoRow.holds Try.pinned (OpenSpec.upto cfiActsSpec)

end Rows
end Go.Proofs.Ytcpcnkmhhmccdaa

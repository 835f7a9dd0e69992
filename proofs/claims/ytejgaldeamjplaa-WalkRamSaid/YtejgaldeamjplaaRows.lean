/-
  No cell of these rows narrows 'for every input' (looked for: loops, veiled, ifaces, maps, wideKeys, modest, calm, conditions, laid).
  DERIVED. THE GIVEN ROWS OF THIS SEAT. 6 by the template 'for every input the law returns true; each argument reads behind the call as it read before'; 0 by the template 'total and deterministic' (their statements: YtejgaldeamjplaaTotals.lean).
  GIVEN WITH THE SEED: the statements are not yours to turn. If you find one false, say at which input.
  Laid BY PROGRAM, IN A SANDBOX (cutbox-rows.mjs): the forced cells as the released guide's own fill.sh prints them over the translation 95895673abb098ea… (all of the seat's roots in one cut). By AI agents, Wed Nov 11 2026. No macro, syntax, notation, axiom, sorry.
-/
import Derived.Test.YtejgaldeamjplaaChecked
import GoSem.Claim
import GoSem.ClaimJoined
import GoSem.ClaimMapViews
import Derived.JoinedTies
import Derived.KernelRfl
namespace Go.Proofs.Ytejgaldeamjplaa
/- THE CELL 'sum', in the pinned program and in every row, IS THE sha256 OF THE DUMP (.gsa) THAT YtejgaldeamjplaaProg.lean LOADS. Nothing in Lean hashes anything: it is a label: what it is worth is what the hold of that sum in a sandbox is worth. -/
noncomputable def Try.pinned : Pinned := { name := "ytejgaldeamjplaa", sum := "95895673abb098ea618db746c58ade5d32cda8aa0bbedf493bf7e0aa8085d190", checked := Try.checked }
namespace Rows
def none {H : Type} : Left H := { results := [], args := [] }

/-- 'dioptralaw15.WalkTells': WHATEVER THE INPUT: true; the input reads as it did. -/
def walkTellsSpec : ChangeSpec := { name := "walkTells", fn := fun _ => fun
  | [d1, d2] => { results := [.lit (.bool true)], args := [d1, d2] }
  | _ => none }
def walkTellsRow : OpenClaim := { program := "ytejgaldeamjplaa", sum := "95895673abb098ea618db746c58ade5d32cda8aa0bbedf493bf7e0aa8085d190", func := "dioptra/dioptralaw15.WalkTells", spec := "walkTells", unfollowed := true, recurses := true, apart := false }
def WalkTellsSaid : Prop := walkTellsRow.holds Try.pinned (OpenSpec.ofChange walkTellsSpec)

/-- ITS FALSE NEIGHBOUR: 'it returns false'. Refute it at one input. -/
def walkTellsWrong : ChangeSpec := { name := "walkTells", fn := fun _ => fun
  | [d1, d2] => { results := [.lit (.bool false)], args := [d1, d2] }
  | _ => none }
def WalkTellsWrongFalsely : Prop := walkTellsRow.holds Try.pinned (OpenSpec.ofChange walkTellsWrong)

/-- 'dioptralaw15.WalkRam': WHATEVER THE INPUT: true; the input reads as it did. -/
def walkRamSpec : ChangeSpec := { name := "walkRam", fn := fun _ => fun
  | [d1, d2, d3] => { results := [.lit (.bool true)], args := [d1, d2, d3] }
  | _ => none }
def walkRamRow : OpenClaim := { program := "ytejgaldeamjplaa", sum := "95895673abb098ea618db746c58ade5d32cda8aa0bbedf493bf7e0aa8085d190", func := "dioptra/dioptralaw15.WalkRam", spec := "walkRam", unfollowed := true, recurses := true, apart := false }
def WalkRamSaid : Prop := walkRamRow.holds Try.pinned (OpenSpec.ofChange walkRamSpec)

/-- ITS FALSE NEIGHBOUR: 'it returns false'. Refute it at one input. -/
def walkRamWrong : ChangeSpec := { name := "walkRam", fn := fun _ => fun
  | [d1, d2, d3] => { results := [.lit (.bool false)], args := [d1, d2, d3] }
  | _ => none }
def WalkRamWrongFalsely : Prop := walkRamRow.holds Try.pinned (OpenSpec.ofChange walkRamWrong)

/-- 'dioptralaw15.WalkAgain': WHATEVER THE INPUT: true; the input reads as it did. -/
def walkAgainSpec : ChangeSpec := { name := "walkAgain", fn := fun _ => fun
  | [d1, d2] => { results := [.lit (.bool true)], args := [d1, d2] }
  | _ => none }
def walkAgainRow : OpenClaim := { program := "ytejgaldeamjplaa", sum := "95895673abb098ea618db746c58ade5d32cda8aa0bbedf493bf7e0aa8085d190", func := "dioptra/dioptralaw15.WalkAgain", spec := "walkAgain", unfollowed := true, recurses := true, apart := false }
def WalkAgainSaid : Prop := walkAgainRow.holds Try.pinned (OpenSpec.ofChange walkAgainSpec)

/-- ITS FALSE NEIGHBOUR: 'it returns false'. Refute it at one input. -/
def walkAgainWrong : ChangeSpec := { name := "walkAgain", fn := fun _ => fun
  | [d1, d2] => { results := [.lit (.bool false)], args := [d1, d2] }
  | _ => none }
def WalkAgainWrongFalsely : Prop := walkAgainRow.holds Try.pinned (OpenSpec.ofChange walkAgainWrong)

/-- 'dioptralaw15.WalkNeeds': WHATEVER THE INPUT: true; the input reads as it did. -/
def walkNeedsSpec : ChangeSpec := { name := "walkNeeds", fn := fun _ => fun
  | [d1, d2] => { results := [.lit (.bool true)], args := [d1, d2] }
  | _ => none }
def walkNeedsRow : OpenClaim := { program := "ytejgaldeamjplaa", sum := "95895673abb098ea618db746c58ade5d32cda8aa0bbedf493bf7e0aa8085d190", func := "dioptra/dioptralaw15.WalkNeeds", spec := "walkNeeds", unfollowed := true, recurses := true, apart := false }
def WalkNeedsSaid : Prop := walkNeedsRow.holds Try.pinned (OpenSpec.ofChange walkNeedsSpec)

/-- ITS FALSE NEIGHBOUR: 'it returns false'. Refute it at one input. -/
def walkNeedsWrong : ChangeSpec := { name := "walkNeeds", fn := fun _ => fun
  | [d1, d2] => { results := [.lit (.bool false)], args := [d1, d2] }
  | _ => none }
def WalkNeedsWrongFalsely : Prop := walkNeedsRow.holds Try.pinned (OpenSpec.ofChange walkNeedsWrong)

/-- 'dioptralaw15.WalkPages': WHATEVER THE INPUT: true; the input reads as it did. -/
def walkPagesSpec : ChangeSpec := { name := "walkPages", fn := fun _ => fun
  | [d1, d2, d3] => { results := [.lit (.bool true)], args := [d1, d2, d3] }
  | _ => none }
def walkPagesRow : OpenClaim := { program := "ytejgaldeamjplaa", sum := "95895673abb098ea618db746c58ade5d32cda8aa0bbedf493bf7e0aa8085d190", func := "dioptra/dioptralaw15.WalkPages", spec := "walkPages", unfollowed := true, recurses := true, apart := false }
def WalkPagesSaid : Prop := walkPagesRow.holds Try.pinned (OpenSpec.ofChange walkPagesSpec)

/-- ITS FALSE NEIGHBOUR: 'it returns false'. Refute it at one input. -/
def walkPagesWrong : ChangeSpec := { name := "walkPages", fn := fun _ => fun
  | [d1, d2, d3] => { results := [.lit (.bool false)], args := [d1, d2, d3] }
  | _ => none }
def WalkPagesWrongFalsely : Prop := walkPagesRow.holds Try.pinned (OpenSpec.ofChange walkPagesWrong)

/-- 'dioptralaw15.WalkCauses': WHATEVER THE INPUT: true; the input reads as it did. -/
def walkCausesSpec : ChangeSpec := { name := "walkCauses", fn := fun _ => fun
  | [d1, d2] => { results := [.lit (.bool true)], args := [d1, d2] }
  | _ => none }
def walkCausesRow : OpenClaim := { program := "ytejgaldeamjplaa", sum := "95895673abb098ea618db746c58ade5d32cda8aa0bbedf493bf7e0aa8085d190", func := "dioptra/dioptralaw15.WalkCauses", spec := "walkCauses", unfollowed := true, recurses := true, apart := false }
def WalkCausesSaid : Prop := walkCausesRow.holds Try.pinned (OpenSpec.ofChange walkCausesSpec)

/-- ITS FALSE NEIGHBOUR: 'it returns false'. Refute it at one input. -/
def walkCausesWrong : ChangeSpec := { name := "walkCauses", fn := fun _ => fun
  | [d1, d2] => { results := [.lit (.bool false)], args := [d1, d2] }
  | _ => none }
def WalkCausesWrongFalsely : Prop := walkCausesRow.holds Try.pinned (OpenSpec.ofChange walkCausesWrong)

/- THE SECOND FORM. 'bulk': how many values and letters a reading holds, each counted each time it is reached (what is shared counts as often as it is met; a slice's spare places count too). A statement '..UptoSaid' is the law's where the arguments, and the package variables that the reading takes, are together of bulk at most 1048576: NARROWER than '..Said'. Prove '..Said' where nothing that the law and all that it calls make is longer than what came in: it says more and counts as full. Else prove '..UptoSaid'. A law counts once. -/
mutual
def uptoBulk {H : Type} : DataW H → Nat
  | .lit (.string bytes) => bytes.length + 1
  | .lit _ => 1
  | .nil => 1
  | .ptr d => uptoBulk d + 1
  | .slice elems spare => uptoBulkAll elems + uptoBulkAll spare + 1
  | .agg parts => uptoBulkAll parts + 1
  | .iface _ d => uptoBulk d + 1
  | .map entries => uptoBulkEntries entries + 1
  | .held _ => 1
def uptoBulkAll {H : Type} : List (DataW H) → Nat
  | [] => 0
  | d :: r => uptoBulk d + uptoBulkAll r
def uptoBulkEntries {H : Type} : List (Lit × DataW H) → Nat
  | [] => 0
  | x :: r => uptoBulkEntry x + uptoBulkEntries r
def uptoBulkEntry {H : Type} : Lit × DataW H → Nat
  | (.string bytes, d) => bytes.length + uptoBulk d + 1
  | (_, d) => uptoBulk d + 1
 end
def uptoSmall : (H : Type) → List (DataW H) → Bool := fun _ ds => decide (uptoBulkAll ds ≤ 1048576)
def OpenSpec.upto (s : _root_.Go.ChangeSpec) : _root_.Go.OpenSpec := { _root_.Go.OpenSpec.ofChange s with cond := some uptoSmall }

/-- 'dioptralaw15.WalkTells', WHERE WHAT IT READS IS OF BULK AT MOST 1048576: true; the input reads as it did. -/
def walkTellsUptoRow : OpenClaim := { program := "ytejgaldeamjplaa", sum := "95895673abb098ea618db746c58ade5d32cda8aa0bbedf493bf7e0aa8085d190", func := "dioptra/dioptralaw15.WalkTells", spec := "walkTells", unfollowed := true, recurses := true, apart := false, narrowed := true }
def WalkTellsUptoSaid : Prop := walkTellsUptoRow.holds Try.pinned (OpenSpec.upto walkTellsSpec)

/-- 'dioptralaw15.WalkRam', WHERE WHAT IT READS IS OF BULK AT MOST 1048576: true; the input reads as it did. -/
def walkRamUptoRow : OpenClaim := { program := "ytejgaldeamjplaa", sum := "95895673abb098ea618db746c58ade5d32cda8aa0bbedf493bf7e0aa8085d190", func := "dioptra/dioptralaw15.WalkRam", spec := "walkRam", unfollowed := true, recurses := true, apart := false, narrowed := true }
def WalkRamUptoSaid : Prop := walkRamUptoRow.holds Try.pinned (OpenSpec.upto walkRamSpec)

/-- 'dioptralaw15.WalkAgain', WHERE WHAT IT READS IS OF BULK AT MOST 1048576: true; the input reads as it did. -/
def walkAgainUptoRow : OpenClaim := { program := "ytejgaldeamjplaa", sum := "95895673abb098ea618db746c58ade5d32cda8aa0bbedf493bf7e0aa8085d190", func := "dioptra/dioptralaw15.WalkAgain", spec := "walkAgain", unfollowed := true, recurses := true, apart := false, narrowed := true }
def WalkAgainUptoSaid : Prop := walkAgainUptoRow.holds Try.pinned (OpenSpec.upto walkAgainSpec)

/-- 'dioptralaw15.WalkNeeds', WHERE WHAT IT READS IS OF BULK AT MOST 1048576: true; the input reads as it did. -/
def walkNeedsUptoRow : OpenClaim := { program := "ytejgaldeamjplaa", sum := "95895673abb098ea618db746c58ade5d32cda8aa0bbedf493bf7e0aa8085d190", func := "dioptra/dioptralaw15.WalkNeeds", spec := "walkNeeds", unfollowed := true, recurses := true, apart := false, narrowed := true }
def WalkNeedsUptoSaid : Prop := walkNeedsUptoRow.holds Try.pinned (OpenSpec.upto walkNeedsSpec)

/-- 'dioptralaw15.WalkPages', WHERE WHAT IT READS IS OF BULK AT MOST 1048576: true; the input reads as it did. -/
def walkPagesUptoRow : OpenClaim := { program := "ytejgaldeamjplaa", sum := "95895673abb098ea618db746c58ade5d32cda8aa0bbedf493bf7e0aa8085d190", func := "dioptra/dioptralaw15.WalkPages", spec := "walkPages", unfollowed := true, recurses := true, apart := false, narrowed := true }
def WalkPagesUptoSaid : Prop := walkPagesUptoRow.holds Try.pinned (OpenSpec.upto walkPagesSpec)

/-- 'dioptralaw15.WalkCauses', WHERE WHAT IT READS IS OF BULK AT MOST 1048576: true; the input reads as it did. -/
def walkCausesUptoRow : OpenClaim := { program := "ytejgaldeamjplaa", sum := "95895673abb098ea618db746c58ade5d32cda8aa0bbedf493bf7e0aa8085d190", func := "dioptra/dioptralaw15.WalkCauses", spec := "walkCauses", unfollowed := true, recurses := true, apart := false, narrowed := true }
def WalkCausesUptoSaid : Prop := walkCausesUptoRow.holds Try.pinned (OpenSpec.upto walkCausesSpec)

end Rows
end Go.Proofs.Ytejgaldeamjplaa

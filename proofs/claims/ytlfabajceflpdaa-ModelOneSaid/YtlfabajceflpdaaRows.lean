/-
  No cell of these rows narrows 'for every input' (looked for: loops, veiled, ifaces, maps, wideKeys, modest, calm, conditions, laid).
  DERIVED. THE GIVEN ROWS OF THIS SEAT. 6 by the template 'for every input the law returns true; each argument reads behind the call as it read before'; 0 by the template 'total and deterministic' (their statements: YtlfabajceflpdaaTotals.lean).
  GIVEN WITH THE SEED: the statements are not yours to turn. If you find one false, say at which input.
  Laid BY PROGRAM, IN A SANDBOX (cutbox-rows.mjs): the forced cells as the released guide's own fill.sh prints them over the translation eb8171284209261b… (all of the seat's roots in one cut). By AI agents, Wed Nov 11 2026. No macro, syntax, notation, axiom, sorry.
-/
import Derived.Test.YtlfabajceflpdaaChecked
import GoSem.Claim
import GoSem.ClaimJoined
import GoSem.ClaimMapViews
import Derived.JoinedTies
import Derived.KernelRfl
namespace Go.Proofs.Ytlfabajceflpdaa
/- THE CELL 'sum', in the pinned program and in every row, IS THE sha256 OF THE DUMP (.gsa) THAT YtlfabajceflpdaaProg.lean LOADS. Nothing in Lean hashes anything: it is a label: what it is worth is what the hold of that sum in a sandbox is worth. -/
noncomputable def Try.pinned : Pinned := { name := "ytlfabajceflpdaa", sum := "eb8171284209261b6e7cfd128c9d064bc30be9f7c76a5fb451bc278a3a5033b7", checked := Try.checked }
namespace Rows
def none {H : Type} : Left H := { results := [], args := [] }

/-- 'dioptralaw09.ModelTells': WHATEVER THE INPUT: true; the input reads as it did. -/
def modelTellsSpec : ChangeSpec := { name := "modelTells", fn := fun _ => fun
  | [d1, d2, d3] => { results := [.lit (.bool true)], args := [d1, d2, d3] }
  | _ => none }
def modelTellsRow : OpenClaim := { program := "ytlfabajceflpdaa", sum := "eb8171284209261b6e7cfd128c9d064bc30be9f7c76a5fb451bc278a3a5033b7", func := "dioptra/dioptralaw09.ModelTells", spec := "modelTells", apart := false }
def ModelTellsSaid : Prop := modelTellsRow.holds Try.pinned (OpenSpec.ofChange modelTellsSpec)

/-- ITS FALSE NEIGHBOUR: 'it returns false'. Refute it at one input. -/
def modelTellsWrong : ChangeSpec := { name := "modelTells", fn := fun _ => fun
  | [d1, d2, d3] => { results := [.lit (.bool false)], args := [d1, d2, d3] }
  | _ => none }
def ModelTellsWrongFalsely : Prop := modelTellsRow.holds Try.pinned (OpenSpec.ofChange modelTellsWrong)

/-- 'dioptralaw09.ModelNew': WHATEVER THE INPUT: true; the input reads as it did. -/
def modelNewSpec : ChangeSpec := { name := "modelNew", fn := fun _ => fun
  | [d] => { results := [.lit (.bool true)], args := [d] }
  | _ => none }
def modelNewRow : OpenClaim := { program := "ytlfabajceflpdaa", sum := "eb8171284209261b6e7cfd128c9d064bc30be9f7c76a5fb451bc278a3a5033b7", func := "dioptra/dioptralaw09.ModelNew", spec := "modelNew", apart := false }
def ModelNewSaid : Prop := modelNewRow.holds Try.pinned (OpenSpec.ofChange modelNewSpec)

/-- ITS FALSE NEIGHBOUR: 'it returns false'. Refute it at one input. -/
def modelNewWrong : ChangeSpec := { name := "modelNew", fn := fun _ => fun
  | [d] => { results := [.lit (.bool false)], args := [d] }
  | _ => none }
def ModelNewWrongFalsely : Prop := modelNewRow.holds Try.pinned (OpenSpec.ofChange modelNewWrong)

/-- 'dioptralaw09.ModelOne': WHATEVER THE INPUT: true; the input reads as it did. -/
def modelOneSpec : ChangeSpec := { name := "modelOne", fn := fun _ => fun
  | [d1, d2, d3] => { results := [.lit (.bool true)], args := [d1, d2, d3] }
  | _ => none }
def modelOneRow : OpenClaim := { program := "ytlfabajceflpdaa", sum := "eb8171284209261b6e7cfd128c9d064bc30be9f7c76a5fb451bc278a3a5033b7", func := "dioptra/dioptralaw09.ModelOne", spec := "modelOne", unfollowed := true, recurses := true, apart := false }
def ModelOneSaid : Prop := modelOneRow.holds Try.pinned (OpenSpec.ofChange modelOneSpec)

/-- ITS FALSE NEIGHBOUR: 'it returns false'. Refute it at one input. -/
def modelOneWrong : ChangeSpec := { name := "modelOne", fn := fun _ => fun
  | [d1, d2, d3] => { results := [.lit (.bool false)], args := [d1, d2, d3] }
  | _ => none }
def ModelOneWrongFalsely : Prop := modelOneRow.holds Try.pinned (OpenSpec.ofChange modelOneWrong)

/-- 'dioptralaw09.ModelSeen': WHATEVER THE INPUT: true; the input reads as it did. -/
def modelSeenSpec : ChangeSpec := { name := "modelSeen", fn := fun _ => fun
  | [d1, d2] => { results := [.lit (.bool true)], args := [d1, d2] }
  | _ => none }
def modelSeenRow : OpenClaim := { program := "ytlfabajceflpdaa", sum := "eb8171284209261b6e7cfd128c9d064bc30be9f7c76a5fb451bc278a3a5033b7", func := "dioptra/dioptralaw09.ModelSeen", spec := "modelSeen", apart := false }
def ModelSeenSaid : Prop := modelSeenRow.holds Try.pinned (OpenSpec.ofChange modelSeenSpec)

/-- ITS FALSE NEIGHBOUR: 'it returns false'. Refute it at one input. -/
def modelSeenWrong : ChangeSpec := { name := "modelSeen", fn := fun _ => fun
  | [d1, d2] => { results := [.lit (.bool false)], args := [d1, d2] }
  | _ => none }
def ModelSeenWrongFalsely : Prop := modelSeenRow.holds Try.pinned (OpenSpec.ofChange modelSeenWrong)

/-- 'dioptralaw09.ModelApart': WHATEVER THE INPUT: true; the input reads as it did. -/
def modelApartSpec : ChangeSpec := { name := "modelApart", fn := fun _ => fun
  | [d1, d2, d3] => { results := [.lit (.bool true)], args := [d1, d2, d3] }
  | _ => none }
def modelApartRow : OpenClaim := { program := "ytlfabajceflpdaa", sum := "eb8171284209261b6e7cfd128c9d064bc30be9f7c76a5fb451bc278a3a5033b7", func := "dioptra/dioptralaw09.ModelApart", spec := "modelApart", apart := false }
def ModelApartSaid : Prop := modelApartRow.holds Try.pinned (OpenSpec.ofChange modelApartSpec)

/-- ITS FALSE NEIGHBOUR: 'it returns false'. Refute it at one input. -/
def modelApartWrong : ChangeSpec := { name := "modelApart", fn := fun _ => fun
  | [d1, d2, d3] => { results := [.lit (.bool false)], args := [d1, d2, d3] }
  | _ => none }
def ModelApartWrongFalsely : Prop := modelApartRow.holds Try.pinned (OpenSpec.ofChange modelApartWrong)

/-- 'dioptralaw09.ModelChains': WHATEVER THE INPUT: true; the input reads as it did. -/
def modelChainsSpec : ChangeSpec := { name := "modelChains", fn := fun _ => fun
  | [d1, d2] => { results := [.lit (.bool true)], args := [d1, d2] }
  | _ => none }
def modelChainsRow : OpenClaim := { program := "ytlfabajceflpdaa", sum := "eb8171284209261b6e7cfd128c9d064bc30be9f7c76a5fb451bc278a3a5033b7", func := "dioptra/dioptralaw09.ModelChains", spec := "modelChains", apart := false }
def ModelChainsSaid : Prop := modelChainsRow.holds Try.pinned (OpenSpec.ofChange modelChainsSpec)

/-- ITS FALSE NEIGHBOUR: 'it returns false'. Refute it at one input. -/
def modelChainsWrong : ChangeSpec := { name := "modelChains", fn := fun _ => fun
  | [d1, d2] => { results := [.lit (.bool false)], args := [d1, d2] }
  | _ => none }
def ModelChainsWrongFalsely : Prop := modelChainsRow.holds Try.pinned (OpenSpec.ofChange modelChainsWrong)

/- THE SECOND FORM. 'bulk': how many values and letters a reading holds, each counted each time it is reached (what is shared counts as often as it is met; a slice's spare places count too). A statement '..UptoSaid' is the law's where the arguments, and the package variables that the reading takes, are together of bulk at most 1048576: NARROWER than '..Said'. Prove '..Said' where nothing that the law and all that it calls make is longer than what came in: it says more and counts as full. Else prove '..UptoSaid'. A law counts once. -/
mutual
def uptoBulk {H : Type} : DataW H → Nat
  | .lit (.string bytes) => bytes.length + 1
  | .lit _ => 1
  | .nil => 1
  | .ptr d => uptoBulk d + 1
  | .slice elems spare => uptoBulkAll elems + uptoBulkAll spare + 1
  | .agg parts => uptoBulkAll parts + 1
  | .iface _ d => uptoBulk d + 1
  | .map entries => uptoBulkEntries entries + 1
  | .held _ => 1
def uptoBulkAll {H : Type} : List (DataW H) → Nat
  | [] => 0
  | d :: r => uptoBulk d + uptoBulkAll r
def uptoBulkEntries {H : Type} : List (Lit × DataW H) → Nat
  | [] => 0
  | x :: r => uptoBulkEntry x + uptoBulkEntries r
def uptoBulkEntry {H : Type} : Lit × DataW H → Nat
  | (.string bytes, d) => bytes.length + uptoBulk d + 1
  | (_, d) => uptoBulk d + 1
 end
def uptoSmall : (H : Type) → List (DataW H) → Bool := fun _ ds => decide (uptoBulkAll ds ≤ 1048576)
def OpenSpec.upto (s : _root_.Go.ChangeSpec) : _root_.Go.OpenSpec := { _root_.Go.OpenSpec.ofChange s with cond := some uptoSmall }

/-- 'dioptralaw09.ModelTells', WHERE WHAT IT READS IS OF BULK AT MOST 1048576: true; the input reads as it did. -/
def modelTellsUptoRow : OpenClaim := { program := "ytlfabajceflpdaa", sum := "eb8171284209261b6e7cfd128c9d064bc30be9f7c76a5fb451bc278a3a5033b7", func := "dioptra/dioptralaw09.ModelTells", spec := "modelTells", apart := false, narrowed := true }
def ModelTellsUptoSaid : Prop := modelTellsUptoRow.holds Try.pinned (OpenSpec.upto modelTellsSpec)

/-- 'dioptralaw09.ModelNew', WHERE WHAT IT READS IS OF BULK AT MOST 1048576: true; the input reads as it did. -/
def modelNewUptoRow : OpenClaim := { program := "ytlfabajceflpdaa", sum := "eb8171284209261b6e7cfd128c9d064bc30be9f7c76a5fb451bc278a3a5033b7", func := "dioptra/dioptralaw09.ModelNew", spec := "modelNew", apart := false, narrowed := true }
def ModelNewUptoSaid : Prop := modelNewUptoRow.holds Try.pinned (OpenSpec.upto modelNewSpec)

/-- 'dioptralaw09.ModelOne', WHERE WHAT IT READS IS OF BULK AT MOST 1048576: true; the input reads as it did. -/
def modelOneUptoRow : OpenClaim := { program := "ytlfabajceflpdaa", sum := "eb8171284209261b6e7cfd128c9d064bc30be9f7c76a5fb451bc278a3a5033b7", func := "dioptra/dioptralaw09.ModelOne", spec := "modelOne", unfollowed := true, recurses := true, apart := false, narrowed := true }
def ModelOneUptoSaid : Prop := modelOneUptoRow.holds Try.pinned (OpenSpec.upto modelOneSpec)

/-- 'dioptralaw09.ModelSeen', WHERE WHAT IT READS IS OF BULK AT MOST 1048576: true; the input reads as it did. -/
def modelSeenUptoRow : OpenClaim := { program := "ytlfabajceflpdaa", sum := "eb8171284209261b6e7cfd128c9d064bc30be9f7c76a5fb451bc278a3a5033b7", func := "dioptra/dioptralaw09.ModelSeen", spec := "modelSeen", apart := false, narrowed := true }
def ModelSeenUptoSaid : Prop := modelSeenUptoRow.holds Try.pinned (OpenSpec.upto modelSeenSpec)

/-- 'dioptralaw09.ModelApart', WHERE WHAT IT READS IS OF BULK AT MOST 1048576: true; the input reads as it did. -/
def modelApartUptoRow : OpenClaim := { program := "ytlfabajceflpdaa", sum := "eb8171284209261b6e7cfd128c9d064bc30be9f7c76a5fb451bc278a3a5033b7", func := "dioptra/dioptralaw09.ModelApart", spec := "modelApart", apart := false, narrowed := true }
def ModelApartUptoSaid : Prop := modelApartUptoRow.holds Try.pinned (OpenSpec.upto modelApartSpec)

/-- 'dioptralaw09.ModelChains', WHERE WHAT IT READS IS OF BULK AT MOST 1048576: true; the input reads as it did. -/
def modelChainsUptoRow : OpenClaim := { program := "ytlfabajceflpdaa", sum := "eb8171284209261b6e7cfd128c9d064bc30be9f7c76a5fb451bc278a3a5033b7", func := "dioptra/dioptralaw09.ModelChains", spec := "modelChains", apart := false, narrowed := true }
def ModelChainsUptoSaid : Prop := modelChainsUptoRow.holds Try.pinned (OpenSpec.upto modelChainsSpec)

end Rows
end Go.Proofs.Ytlfabajceflpdaa

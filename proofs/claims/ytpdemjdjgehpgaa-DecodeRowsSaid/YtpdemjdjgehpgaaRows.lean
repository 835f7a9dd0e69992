/-
  No cell of these rows narrows 'for every input' (looked for: loops, veiled, ifaces, maps, wideKeys, modest, calm, conditions, laid).
  DERIVED. THE GIVEN ROWS OF THIS SEAT. 6 by the template 'for every input the law returns true; each argument reads behind the call as it read before'; 0 by the template 'total and deterministic' (their statements: YtpdemjdjgehpgaaTotals.lean).
  GIVEN WITH THE SEED: the statements are not yours to turn. If you find one false, say at which input.
  Laid BY PROGRAM, IN A SANDBOX (cutbox-rows.mjs): the forced cells as the released guide's own fill.sh prints them over the translation 7802f1c367ae7226… (all of the seat's roots in one cut). By AI agents, Wed Nov 11 2026. No macro, syntax, notation, axiom, sorry.
-/
import Derived.Test.YtpdemjdjgehpgaaChecked
import GoSem.Claim
import GoSem.ClaimJoined
import GoSem.ClaimMapViews
import Derived.JoinedTies
import Derived.KernelRfl
namespace Go.Proofs.Ytpdemjdjgehpgaa
/- THE CELL 'sum', in the pinned program and in every row, IS THE sha256 OF THE DUMP (.gsa) THAT YtpdemjdjgehpgaaProg.lean LOADS. Nothing in Lean hashes anything: it is a label: what it is worth is what the hold of that sum in a sandbox is worth. -/
noncomputable def Try.pinned : Pinned := { name := "ytpdemjdjgehpgaa", sum := "7802f1c367ae7226f7eab04e476b0a6dd9dfb32f895750a07326425660ab17f1", checked := Try.checked }
namespace Rows
def none {H : Type} : Left H := { results := [], args := [] }

/-- 'dioptralaw11.DecodeTells': WHATEVER THE INPUT: true; the input reads as it did. -/
def decodeTellsSpec : ChangeSpec := { name := "decodeTells", fn := fun _ => fun
  | [d] => { results := [.lit (.bool true)], args := [d] }
  | _ => none }
def decodeTellsRow : OpenClaim := { program := "ytpdemjdjgehpgaa", sum := "7802f1c367ae7226f7eab04e476b0a6dd9dfb32f895750a07326425660ab17f1", func := "dioptra/dioptralaw11.DecodeTells", spec := "decodeTells", inPlace := ["internal/bytealg.IndexByteString", "internal/bytealg.IndexString"], named := ["internal/bytealg.MaxLen"], apart := false }
def DecodeTellsSaid : Prop := decodeTellsRow.holds Try.pinned (OpenSpec.ofChange decodeTellsSpec)

/-- ITS FALSE NEIGHBOUR: 'it returns false'. Refute it at one input. -/
def decodeTellsWrong : ChangeSpec := { name := "decodeTells", fn := fun _ => fun
  | [d] => { results := [.lit (.bool false)], args := [d] }
  | _ => none }
def DecodeTellsWrongFalsely : Prop := decodeTellsRow.holds Try.pinned (OpenSpec.ofChange decodeTellsWrong)

/-- 'dioptralaw11.DecodeEncodes': WHATEVER THE INPUT: true; the input reads as it did. -/
def decodeEncodesSpec : ChangeSpec := { name := "decodeEncodes", fn := fun _ => fun
  | [d] => { results := [.lit (.bool true)], args := [d] }
  | _ => none }
def decodeEncodesRow : OpenClaim := { program := "ytpdemjdjgehpgaa", sum := "7802f1c367ae7226f7eab04e476b0a6dd9dfb32f895750a07326425660ab17f1", func := "dioptra/dioptralaw11.DecodeEncodes", spec := "decodeEncodes", inPlace := ["internal/bytealg.IndexByteString", "internal/bytealg.IndexString"], named := ["internal/bytealg.MaxLen"], apart := false }
def DecodeEncodesSaid : Prop := decodeEncodesRow.holds Try.pinned (OpenSpec.ofChange decodeEncodesSpec)

/-- ITS FALSE NEIGHBOUR: 'it returns false'. Refute it at one input. -/
def decodeEncodesWrong : ChangeSpec := { name := "decodeEncodes", fn := fun _ => fun
  | [d] => { results := [.lit (.bool false)], args := [d] }
  | _ => none }
def DecodeEncodesWrongFalsely : Prop := decodeEncodesRow.holds Try.pinned (OpenSpec.ofChange decodeEncodesWrong)

/-- 'dioptralaw11.DecodeBack': WHATEVER THE INPUT: true; the input reads as it did. -/
def decodeBackSpec : ChangeSpec := { name := "decodeBack", fn := fun _ => fun
  | [d1, d2, d3] => { results := [.lit (.bool true)], args := [d1, d2, d3] }
  | _ => none }
def decodeBackRow : OpenClaim := { program := "ytpdemjdjgehpgaa", sum := "7802f1c367ae7226f7eab04e476b0a6dd9dfb32f895750a07326425660ab17f1", func := "dioptra/dioptralaw11.DecodeBack", spec := "decodeBack", inPlace := ["internal/bytealg.IndexByteString", "internal/bytealg.IndexString"], named := ["internal/bytealg.MaxLen"], apart := false }
def DecodeBackSaid : Prop := decodeBackRow.holds Try.pinned (OpenSpec.ofChange decodeBackSpec)

/-- ITS FALSE NEIGHBOUR: 'it returns false'. Refute it at one input. -/
def decodeBackWrong : ChangeSpec := { name := "decodeBack", fn := fun _ => fun
  | [d1, d2, d3] => { results := [.lit (.bool false)], args := [d1, d2, d3] }
  | _ => none }
def DecodeBackWrongFalsely : Prop := decodeBackRow.holds Try.pinned (OpenSpec.ofChange decodeBackWrong)

/-- 'dioptralaw11.DecodeFields': WHATEVER THE INPUT: true; the input reads as it did. -/
def decodeFieldsSpec : ChangeSpec := { name := "decodeFields", fn := fun _ => fun
  | [d] => { results := [.lit (.bool true)], args := [d] }
  | _ => none }
def decodeFieldsRow : OpenClaim := { program := "ytpdemjdjgehpgaa", sum := "7802f1c367ae7226f7eab04e476b0a6dd9dfb32f895750a07326425660ab17f1", func := "dioptra/dioptralaw11.DecodeFields", spec := "decodeFields", inPlace := ["internal/bytealg.IndexByteString", "internal/bytealg.IndexString"], named := ["internal/bytealg.MaxLen"], apart := false }
def DecodeFieldsSaid : Prop := decodeFieldsRow.holds Try.pinned (OpenSpec.ofChange decodeFieldsSpec)

/-- ITS FALSE NEIGHBOUR: 'it returns false'. Refute it at one input. -/
def decodeFieldsWrong : ChangeSpec := { name := "decodeFields", fn := fun _ => fun
  | [d] => { results := [.lit (.bool false)], args := [d] }
  | _ => none }
def DecodeFieldsWrongFalsely : Prop := decodeFieldsRow.holds Try.pinned (OpenSpec.ofChange decodeFieldsWrong)

/-- 'dioptralaw11.DecodeRows': WHATEVER THE INPUT: true; the input reads as it did. -/
def decodeRowsSpec : ChangeSpec := { name := "decodeRows", fn := fun _ => fun
  | [d1, d2, d3] => { results := [.lit (.bool true)], args := [d1, d2, d3] }
  | _ => none }
def decodeRowsRow : OpenClaim := { program := "ytpdemjdjgehpgaa", sum := "7802f1c367ae7226f7eab04e476b0a6dd9dfb32f895750a07326425660ab17f1", func := "dioptra/dioptralaw11.DecodeRows", spec := "decodeRows", inPlace := ["internal/bytealg.IndexByteString", "internal/bytealg.IndexString"], unfollowed := true, recurses := true, named := ["internal/bytealg.MaxLen"], apart := false }
def DecodeRowsSaid : Prop := decodeRowsRow.holds Try.pinned (OpenSpec.ofChange decodeRowsSpec)

/-- ITS FALSE NEIGHBOUR: 'it returns false'. Refute it at one input. -/
def decodeRowsWrong : ChangeSpec := { name := "decodeRows", fn := fun _ => fun
  | [d1, d2, d3] => { results := [.lit (.bool false)], args := [d1, d2, d3] }
  | _ => none }
def DecodeRowsWrongFalsely : Prop := decodeRowsRow.holds Try.pinned (OpenSpec.ofChange decodeRowsWrong)

/-- 'dioptralaw11.DecodeRegisters': WHATEVER THE INPUT: true; the input reads as it did. -/
def decodeRegistersSpec : ChangeSpec := { name := "decodeRegisters", fn := fun _ => fun
  | [d1, d2] => { results := [.lit (.bool true)], args := [d1, d2] }
  | _ => none }
def decodeRegistersRow : OpenClaim := { program := "ytpdemjdjgehpgaa", sum := "7802f1c367ae7226f7eab04e476b0a6dd9dfb32f895750a07326425660ab17f1", func := "dioptra/dioptralaw11.DecodeRegisters", spec := "decodeRegisters", inPlace := ["internal/bytealg.IndexByteString", "internal/bytealg.IndexString"], named := ["internal/bytealg.MaxLen"], apart := false }
def DecodeRegistersSaid : Prop := decodeRegistersRow.holds Try.pinned (OpenSpec.ofChange decodeRegistersSpec)

/-- ITS FALSE NEIGHBOUR: 'it returns false'. Refute it at one input. -/
def decodeRegistersWrong : ChangeSpec := { name := "decodeRegisters", fn := fun _ => fun
  | [d1, d2] => { results := [.lit (.bool false)], args := [d1, d2] }
  | _ => none }
def DecodeRegistersWrongFalsely : Prop := decodeRegistersRow.holds Try.pinned (OpenSpec.ofChange decodeRegistersWrong)

/- THE SECOND FORM. 'bulk': how many values and letters a reading holds, each counted each time it is reached (what is shared counts as often as it is met; a slice's spare places count too). A statement '..UptoSaid' is the law's where the arguments, and the package variables that the reading takes, are together of bulk at most 1048576: NARROWER than '..Said'. Prove '..Said' where nothing that the law and all that it calls make is longer than what came in: it says more and counts as full. Else prove '..UptoSaid'. A law counts once. -/
mutual
def uptoBulk {H : Type} : DataW H → Nat
  | .lit (.string bytes) => bytes.length + 1
  | .lit _ => 1
  | .nil => 1
  | .ptr d => uptoBulk d + 1
  | .slice elems spare => uptoBulkAll elems + uptoBulkAll spare + 1
  | .agg parts => uptoBulkAll parts + 1
  | .iface _ d => uptoBulk d + 1
  | .map entries => uptoBulkEntries entries + 1
  | .held _ => 1
def uptoBulkAll {H : Type} : List (DataW H) → Nat
  | [] => 0
  | d :: r => uptoBulk d + uptoBulkAll r
def uptoBulkEntries {H : Type} : List (Lit × DataW H) → Nat
  | [] => 0
  | x :: r => uptoBulkEntry x + uptoBulkEntries r
def uptoBulkEntry {H : Type} : Lit × DataW H → Nat
  | (.string bytes, d) => bytes.length + uptoBulk d + 1
  | (_, d) => uptoBulk d + 1
 end
def uptoSmall : (H : Type) → List (DataW H) → Bool := fun _ ds => decide (uptoBulkAll ds ≤ 1048576)
def OpenSpec.upto (s : _root_.Go.ChangeSpec) : _root_.Go.OpenSpec := { _root_.Go.OpenSpec.ofChange s with cond := some uptoSmall }

/-- 'dioptralaw11.DecodeTells', WHERE WHAT IT READS IS OF BULK AT MOST 1048576: true; the input reads as it did. -/
def decodeTellsUptoRow : OpenClaim := { program := "ytpdemjdjgehpgaa", sum := "7802f1c367ae7226f7eab04e476b0a6dd9dfb32f895750a07326425660ab17f1", func := "dioptra/dioptralaw11.DecodeTells", spec := "decodeTells", inPlace := ["internal/bytealg.IndexByteString", "internal/bytealg.IndexString"], named := ["internal/bytealg.MaxLen"], apart := false, narrowed := true }
def DecodeTellsUptoSaid : Prop := decodeTellsUptoRow.holds Try.pinned (OpenSpec.upto decodeTellsSpec)

/-- 'dioptralaw11.DecodeEncodes', WHERE WHAT IT READS IS OF BULK AT MOST 1048576: true; the input reads as it did. -/
def decodeEncodesUptoRow : OpenClaim := { program := "ytpdemjdjgehpgaa", sum := "7802f1c367ae7226f7eab04e476b0a6dd9dfb32f895750a07326425660ab17f1", func := "dioptra/dioptralaw11.DecodeEncodes", spec := "decodeEncodes", inPlace := ["internal/bytealg.IndexByteString", "internal/bytealg.IndexString"], named := ["internal/bytealg.MaxLen"], apart := false, narrowed := true }
def DecodeEncodesUptoSaid : Prop := decodeEncodesUptoRow.holds Try.pinned (OpenSpec.upto decodeEncodesSpec)

/-- 'dioptralaw11.DecodeBack', WHERE WHAT IT READS IS OF BULK AT MOST 1048576: true; the input reads as it did. -/
def decodeBackUptoRow : OpenClaim := { program := "ytpdemjdjgehpgaa", sum := "7802f1c367ae7226f7eab04e476b0a6dd9dfb32f895750a07326425660ab17f1", func := "dioptra/dioptralaw11.DecodeBack", spec := "decodeBack", inPlace := ["internal/bytealg.IndexByteString", "internal/bytealg.IndexString"], named := ["internal/bytealg.MaxLen"], apart := false, narrowed := true }
def DecodeBackUptoSaid : Prop := decodeBackUptoRow.holds Try.pinned (OpenSpec.upto decodeBackSpec)

/-- 'dioptralaw11.DecodeFields', WHERE WHAT IT READS IS OF BULK AT MOST 1048576: true; the input reads as it did. -/
def decodeFieldsUptoRow : OpenClaim := { program := "ytpdemjdjgehpgaa", sum := "7802f1c367ae7226f7eab04e476b0a6dd9dfb32f895750a07326425660ab17f1", func := "dioptra/dioptralaw11.DecodeFields", spec := "decodeFields", inPlace := ["internal/bytealg.IndexByteString", "internal/bytealg.IndexString"], named := ["internal/bytealg.MaxLen"], apart := false, narrowed := true }
def DecodeFieldsUptoSaid : Prop := decodeFieldsUptoRow.holds Try.pinned (OpenSpec.upto decodeFieldsSpec)

/-- 'dioptralaw11.DecodeRows', WHERE WHAT IT READS IS OF BULK AT MOST 1048576: true; the input reads as it did. -/
def decodeRowsUptoRow : OpenClaim := { program := "ytpdemjdjgehpgaa", sum := "7802f1c367ae7226f7eab04e476b0a6dd9dfb32f895750a07326425660ab17f1", func := "dioptra/dioptralaw11.DecodeRows", spec := "decodeRows", inPlace := ["internal/bytealg.IndexByteString", "internal/bytealg.IndexString"], unfollowed := true, recurses := true, named := ["internal/bytealg.MaxLen"], apart := false, narrowed := true }
def DecodeRowsUptoSaid : Prop := decodeRowsUptoRow.holds Try.pinned (OpenSpec.upto decodeRowsSpec)

/-- 'dioptralaw11.DecodeRegisters', WHERE WHAT IT READS IS OF BULK AT MOST 1048576: true; the input reads as it did. -/
def decodeRegistersUptoRow : OpenClaim := { program := "ytpdemjdjgehpgaa", sum := "7802f1c367ae7226f7eab04e476b0a6dd9dfb32f895750a07326425660ab17f1", func := "dioptra/dioptralaw11.DecodeRegisters", spec := "decodeRegisters", inPlace := ["internal/bytealg.IndexByteString", "internal/bytealg.IndexString"], named := ["internal/bytealg.MaxLen"], apart := false, narrowed := true }
def DecodeRegistersUptoSaid : Prop := decodeRegistersUptoRow.holds Try.pinned (OpenSpec.upto decodeRegistersSpec)

end Rows
end Go.Proofs.Ytpdemjdjgehpgaa

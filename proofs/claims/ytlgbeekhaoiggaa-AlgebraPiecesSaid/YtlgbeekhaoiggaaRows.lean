/-
  No cell of these rows narrows 'for every input' (looked for: loops, veiled, ifaces, maps, wideKeys, modest, calm, conditions, laid).
  DERIVED. THE GIVEN ROWS OF THIS SEAT. 9 by the template 'for every input the law returns true; each argument reads behind the call as it read before'; 0 by the template 'total and deterministic' (their statements: YtlgbeekhaoiggaaTotals.lean).
  GIVEN WITH THE SEED: the statements are not yours to turn. If you find one false, say at which input.
  Laid BY PROGRAM, IN A SANDBOX (cutbox-rows.mjs): the forced cells as the released guide's own fill.sh prints them over the translation 49e10f62caa7277f… (all of the seat's roots in one cut). By AI agents, Wed Nov 11 2026. No macro, syntax, notation, axiom, sorry.
-/
import Derived.Test.YtlgbeekhaoiggaaChecked
import GoSem.Claim
import GoSem.ClaimJoined
import GoSem.ClaimMapViews
import Derived.JoinedTies
import Derived.KernelRfl
namespace Go.Proofs.Ytlgbeekhaoiggaa
/- THE CELL 'sum', in the pinned program and in every row, IS THE sha256 OF THE DUMP (.gsa) THAT YtlgbeekhaoiggaaProg.lean LOADS. Nothing in Lean hashes anything: it is a label: what it is worth is what the hold of that sum in a sandbox is worth. -/
noncomputable def Try.pinned : Pinned := { name := "ytlgbeekhaoiggaa", sum := "49e10f62caa7277f11ccce215bc50fb8875dc0e03d368fbdff45d719134531a1", checked := Try.checked }
namespace Rows
def none {H : Type} : Left H := { results := [], args := [] }

/-- 'bocagelaw18.TextReads': WHATEVER THE INPUT: true; the input reads as it did. -/
def textReadsSpec : ChangeSpec := { name := "textReads", fn := fun _ => fun
  | [d] => { results := [.lit (.bool true)], args := [d] }
  | _ => none }
def textReadsRow : OpenClaim := { program := "ytlgbeekhaoiggaa", sum := "49e10f62caa7277f11ccce215bc50fb8875dc0e03d368fbdff45d719134531a1", func := "bocage/bocagelaw18.TextReads", spec := "textReads", inPlace := ["internal/abi.NoEscape"], unfollowed := true, recurses := true, apart := false }
def TextReadsSaid : Prop := textReadsRow.holds Try.pinned (OpenSpec.ofChange textReadsSpec)

/-- ITS FALSE NEIGHBOUR: 'it returns false'. Refute it at one input. -/
def textReadsWrong : ChangeSpec := { name := "textReads", fn := fun _ => fun
  | [d] => { results := [.lit (.bool false)], args := [d] }
  | _ => none }
def TextReadsWrongFalsely : Prop := textReadsRow.holds Try.pinned (OpenSpec.ofChange textReadsWrong)

/-- 'bocagelaw18.TextWrites': WHATEVER THE INPUT: true; the input reads as it did. -/
def textWritesSpec : ChangeSpec := { name := "textWrites", fn := fun _ => fun
  | [d] => { results := [.lit (.bool true)], args := [d] }
  | _ => none }
def textWritesRow : OpenClaim := { program := "ytlgbeekhaoiggaa", sum := "49e10f62caa7277f11ccce215bc50fb8875dc0e03d368fbdff45d719134531a1", func := "bocage/bocagelaw18.TextWrites", spec := "textWrites", inPlace := ["internal/abi.NoEscape"], unfollowed := true, recurses := true, apart := false }
def TextWritesSaid : Prop := textWritesRow.holds Try.pinned (OpenSpec.ofChange textWritesSpec)

/-- ITS FALSE NEIGHBOUR: 'it returns false'. Refute it at one input. -/
def textWritesWrong : ChangeSpec := { name := "textWrites", fn := fun _ => fun
  | [d] => { results := [.lit (.bool false)], args := [d] }
  | _ => none }
def TextWritesWrongFalsely : Prop := textWritesRow.holds Try.pinned (OpenSpec.ofChange textWritesWrong)

/-- 'bocagelaw18.TextOnce': WHATEVER THE INPUT: true; the input reads as it did. -/
def textOnceSpec : ChangeSpec := { name := "textOnce", fn := fun _ => fun
  | [d] => { results := [.lit (.bool true)], args := [d] }
  | _ => none }
def textOnceRow : OpenClaim := { program := "ytlgbeekhaoiggaa", sum := "49e10f62caa7277f11ccce215bc50fb8875dc0e03d368fbdff45d719134531a1", func := "bocage/bocagelaw18.TextOnce", spec := "textOnce", inPlace := ["internal/abi.NoEscape"], unfollowed := true, recurses := true, apart := false }
def TextOnceSaid : Prop := textOnceRow.holds Try.pinned (OpenSpec.ofChange textOnceSpec)

/-- ITS FALSE NEIGHBOUR: 'it returns false'. Refute it at one input. -/
def textOnceWrong : ChangeSpec := { name := "textOnce", fn := fun _ => fun
  | [d] => { results := [.lit (.bool false)], args := [d] }
  | _ => none }
def TextOnceWrongFalsely : Prop := textOnceRow.holds Try.pinned (OpenSpec.ofChange textOnceWrong)

/-- 'bocagelaw18.TextBack': WHATEVER THE INPUT: true; the input reads as it did. -/
def textBackSpec : ChangeSpec := { name := "textBack", fn := fun _ => fun
  | [d] => { results := [.lit (.bool true)], args := [d] }
  | _ => none }
def textBackRow : OpenClaim := { program := "ytlgbeekhaoiggaa", sum := "49e10f62caa7277f11ccce215bc50fb8875dc0e03d368fbdff45d719134531a1", func := "bocage/bocagelaw18.TextBack", spec := "textBack", inPlace := ["internal/abi.NoEscape"], unfollowed := true, recurses := true, apart := false }
def TextBackSaid : Prop := textBackRow.holds Try.pinned (OpenSpec.ofChange textBackSpec)

/-- ITS FALSE NEIGHBOUR: 'it returns false'. Refute it at one input. -/
def textBackWrong : ChangeSpec := { name := "textBack", fn := fun _ => fun
  | [d] => { results := [.lit (.bool false)], args := [d] }
  | _ => none }
def TextBackWrongFalsely : Prop := textBackRow.holds Try.pinned (OpenSpec.ofChange textBackWrong)

/-- 'bocagelaw11.AlgebraTwo': WHATEVER THE INPUT: true; the input reads as it did. -/
def algebraTwoSpec : ChangeSpec := { name := "algebraTwo", fn := fun _ => fun
  | [d1, d2] => { results := [.lit (.bool true)], args := [d1, d2] }
  | _ => none }
def algebraTwoRow : OpenClaim := { program := "ytlgbeekhaoiggaa", sum := "49e10f62caa7277f11ccce215bc50fb8875dc0e03d368fbdff45d719134531a1", func := "bocage/bocagelaw11.AlgebraTwo", spec := "algebraTwo", unfollowed := true, recurses := true, apart := false }
def AlgebraTwoSaid : Prop := algebraTwoRow.holds Try.pinned (OpenSpec.ofChange algebraTwoSpec)

/-- ITS FALSE NEIGHBOUR: 'it returns false'. Refute it at one input. -/
def algebraTwoWrong : ChangeSpec := { name := "algebraTwo", fn := fun _ => fun
  | [d1, d2] => { results := [.lit (.bool false)], args := [d1, d2] }
  | _ => none }
def AlgebraTwoWrongFalsely : Prop := algebraTwoRow.holds Try.pinned (OpenSpec.ofChange algebraTwoWrong)

/-- 'bocagelaw11.AlgebraPieces': WHATEVER THE INPUT: true; the input reads as it did. -/
def algebraPiecesSpec : ChangeSpec := { name := "algebraPieces", fn := fun _ => fun
  | [d1, d2] => { results := [.lit (.bool true)], args := [d1, d2] }
  | _ => none }
def algebraPiecesRow : OpenClaim := { program := "ytlgbeekhaoiggaa", sum := "49e10f62caa7277f11ccce215bc50fb8875dc0e03d368fbdff45d719134531a1", func := "bocage/bocagelaw11.AlgebraPieces", spec := "algebraPieces", unfollowed := true, recurses := true, apart := false }
def AlgebraPiecesSaid : Prop := algebraPiecesRow.holds Try.pinned (OpenSpec.ofChange algebraPiecesSpec)

/-- ITS FALSE NEIGHBOUR: 'it returns false'. Refute it at one input. -/
def algebraPiecesWrong : ChangeSpec := { name := "algebraPieces", fn := fun _ => fun
  | [d1, d2] => { results := [.lit (.bool false)], args := [d1, d2] }
  | _ => none }
def AlgebraPiecesWrongFalsely : Prop := algebraPiecesRow.holds Try.pinned (OpenSpec.ofChange algebraPiecesWrong)

/-- 'bocagelaw11.AlgebraLaws': WHATEVER THE INPUT: true; the input reads as it did. -/
def algebraLawsSpec : ChangeSpec := { name := "algebraLaws", fn := fun _ => fun
  | [d1, d2, d3] => { results := [.lit (.bool true)], args := [d1, d2, d3] }
  | _ => none }
def algebraLawsRow : OpenClaim := { program := "ytlgbeekhaoiggaa", sum := "49e10f62caa7277f11ccce215bc50fb8875dc0e03d368fbdff45d719134531a1", func := "bocage/bocagelaw11.AlgebraLaws", spec := "algebraLaws", unfollowed := true, recurses := true, apart := false }
def AlgebraLawsSaid : Prop := algebraLawsRow.holds Try.pinned (OpenSpec.ofChange algebraLawsSpec)

/-- ITS FALSE NEIGHBOUR: 'it returns false'. Refute it at one input. -/
def algebraLawsWrong : ChangeSpec := { name := "algebraLaws", fn := fun _ => fun
  | [d1, d2, d3] => { results := [.lit (.bool false)], args := [d1, d2, d3] }
  | _ => none }
def AlgebraLawsWrongFalsely : Prop := algebraLawsRow.holds Try.pinned (OpenSpec.ofChange algebraLawsWrong)

/-- 'bocagelaw11.AlgebraNumbers': WHATEVER THE INPUT: true; the input reads as it did. -/
def algebraNumbersSpec : ChangeSpec := { name := "algebraNumbers", fn := fun _ => fun
  | [d1, d2, d3] => { results := [.lit (.bool true)], args := [d1, d2, d3] }
  | _ => none }
def algebraNumbersRow : OpenClaim := { program := "ytlgbeekhaoiggaa", sum := "49e10f62caa7277f11ccce215bc50fb8875dc0e03d368fbdff45d719134531a1", func := "bocage/bocagelaw11.AlgebraNumbers", spec := "algebraNumbers", unfollowed := true, recurses := true, apart := false }
def AlgebraNumbersSaid : Prop := algebraNumbersRow.holds Try.pinned (OpenSpec.ofChange algebraNumbersSpec)

/-- ITS FALSE NEIGHBOUR: 'it returns false'. Refute it at one input. -/
def algebraNumbersWrong : ChangeSpec := { name := "algebraNumbers", fn := fun _ => fun
  | [d1, d2, d3] => { results := [.lit (.bool false)], args := [d1, d2, d3] }
  | _ => none }
def AlgebraNumbersWrongFalsely : Prop := algebraNumbersRow.holds Try.pinned (OpenSpec.ofChange algebraNumbersWrong)

/-- 'bocagelaw11.AlgebraNot': WHATEVER THE INPUT: true; the input reads as it did. -/
def algebraNotSpec : ChangeSpec := { name := "algebraNot", fn := fun _ => fun
  | [d1, d2] => { results := [.lit (.bool true)], args := [d1, d2] }
  | _ => none }
def algebraNotRow : OpenClaim := { program := "ytlgbeekhaoiggaa", sum := "49e10f62caa7277f11ccce215bc50fb8875dc0e03d368fbdff45d719134531a1", func := "bocage/bocagelaw11.AlgebraNot", spec := "algebraNot", unfollowed := true, recurses := true, apart := false }
def AlgebraNotSaid : Prop := algebraNotRow.holds Try.pinned (OpenSpec.ofChange algebraNotSpec)

/-- ITS FALSE NEIGHBOUR: 'it returns false'. Refute it at one input. -/
def algebraNotWrong : ChangeSpec := { name := "algebraNot", fn := fun _ => fun
  | [d1, d2] => { results := [.lit (.bool false)], args := [d1, d2] }
  | _ => none }
def AlgebraNotWrongFalsely : Prop := algebraNotRow.holds Try.pinned (OpenSpec.ofChange algebraNotWrong)

/- THE SECOND FORM. 'bulk': how many values and letters a reading holds, each counted each time it is reached (what is shared counts as often as it is met; a slice's spare places count too). A statement '..UptoSaid' is the law's where the arguments, and the package variables that the reading takes, are together of bulk at most 1048576: NARROWER than '..Said'. Prove '..Said' where nothing that the law and all that it calls make is longer than what came in: it says more and counts as full. Else prove '..UptoSaid'. A law counts once. -/
mutual
def uptoBulk {H : Type} : DataW H → Nat
  | .lit (.string bytes) => bytes.length + 1
  | .lit _ => 1
  | .nil => 1
  | .ptr d => uptoBulk d + 1
  | .slice elems spare => uptoBulkAll elems + uptoBulkAll spare + 1
  | .agg parts => uptoBulkAll parts + 1
  | .iface _ d => uptoBulk d + 1
  | .map entries => uptoBulkEntries entries + 1
  | .held _ => 1
def uptoBulkAll {H : Type} : List (DataW H) → Nat
  | [] => 0
  | d :: r => uptoBulk d + uptoBulkAll r
def uptoBulkEntries {H : Type} : List (Lit × DataW H) → Nat
  | [] => 0
  | x :: r => uptoBulkEntry x + uptoBulkEntries r
def uptoBulkEntry {H : Type} : Lit × DataW H → Nat
  | (.string bytes, d) => bytes.length + uptoBulk d + 1
  | (_, d) => uptoBulk d + 1
 end
def uptoSmall : (H : Type) → List (DataW H) → Bool := fun _ ds => decide (uptoBulkAll ds ≤ 1048576)
def OpenSpec.upto (s : _root_.Go.ChangeSpec) : _root_.Go.OpenSpec := { _root_.Go.OpenSpec.ofChange s with cond := some uptoSmall }

/-- 'bocagelaw18.TextReads', WHERE WHAT IT READS IS OF BULK AT MOST 1048576: true; the input reads as it did. -/
def textReadsUptoRow : OpenClaim := { program := "ytlgbeekhaoiggaa", sum := "49e10f62caa7277f11ccce215bc50fb8875dc0e03d368fbdff45d719134531a1", func := "bocage/bocagelaw18.TextReads", spec := "textReads", inPlace := ["internal/abi.NoEscape"], unfollowed := true, recurses := true, apart := false, narrowed := true }
def TextReadsUptoSaid : Prop := textReadsUptoRow.holds Try.pinned (OpenSpec.upto textReadsSpec)

/-- 'bocagelaw18.TextWrites', WHERE WHAT IT READS IS OF BULK AT MOST 1048576: true; the input reads as it did. -/
def textWritesUptoRow : OpenClaim := { program := "ytlgbeekhaoiggaa", sum := "49e10f62caa7277f11ccce215bc50fb8875dc0e03d368fbdff45d719134531a1", func := "bocage/bocagelaw18.TextWrites", spec := "textWrites", inPlace := ["internal/abi.NoEscape"], unfollowed := true, recurses := true, apart := false, narrowed := true }
def TextWritesUptoSaid : Prop := textWritesUptoRow.holds Try.pinned (OpenSpec.upto textWritesSpec)

/-- 'bocagelaw18.TextOnce', WHERE WHAT IT READS IS OF BULK AT MOST 1048576: true; the input reads as it did. -/
def textOnceUptoRow : OpenClaim := { program := "ytlgbeekhaoiggaa", sum := "49e10f62caa7277f11ccce215bc50fb8875dc0e03d368fbdff45d719134531a1", func := "bocage/bocagelaw18.TextOnce", spec := "textOnce", inPlace := ["internal/abi.NoEscape"], unfollowed := true, recurses := true, apart := false, narrowed := true }
def TextOnceUptoSaid : Prop := textOnceUptoRow.holds Try.pinned (OpenSpec.upto textOnceSpec)

/-- 'bocagelaw18.TextBack', WHERE WHAT IT READS IS OF BULK AT MOST 1048576: true; the input reads as it did. -/
def textBackUptoRow : OpenClaim := { program := "ytlgbeekhaoiggaa", sum := "49e10f62caa7277f11ccce215bc50fb8875dc0e03d368fbdff45d719134531a1", func := "bocage/bocagelaw18.TextBack", spec := "textBack", inPlace := ["internal/abi.NoEscape"], unfollowed := true, recurses := true, apart := false, narrowed := true }
def TextBackUptoSaid : Prop := textBackUptoRow.holds Try.pinned (OpenSpec.upto textBackSpec)

/-- 'bocagelaw11.AlgebraTwo', WHERE WHAT IT READS IS OF BULK AT MOST 1048576: true; the input reads as it did. -/
def algebraTwoUptoRow : OpenClaim := { program := "ytlgbeekhaoiggaa", sum := "49e10f62caa7277f11ccce215bc50fb8875dc0e03d368fbdff45d719134531a1", func := "bocage/bocagelaw11.AlgebraTwo", spec := "algebraTwo", unfollowed := true, recurses := true, apart := false, narrowed := true }
def AlgebraTwoUptoSaid : Prop := algebraTwoUptoRow.holds Try.pinned (OpenSpec.upto algebraTwoSpec)

/-- 'bocagelaw11.AlgebraPieces', WHERE WHAT IT READS IS OF BULK AT MOST 1048576: true; the input reads as it did. -/
def algebraPiecesUptoRow : OpenClaim := { program := "ytlgbeekhaoiggaa", sum := "49e10f62caa7277f11ccce215bc50fb8875dc0e03d368fbdff45d719134531a1", func := "bocage/bocagelaw11.AlgebraPieces", spec := "algebraPieces", unfollowed := true, recurses := true, apart := false, narrowed := true }
def AlgebraPiecesUptoSaid : Prop := algebraPiecesUptoRow.holds Try.pinned (OpenSpec.upto algebraPiecesSpec)

/-- 'bocagelaw11.AlgebraLaws', WHERE WHAT IT READS IS OF BULK AT MOST 1048576: true; the input reads as it did. -/
def algebraLawsUptoRow : OpenClaim := { program := "ytlgbeekhaoiggaa", sum := "49e10f62caa7277f11ccce215bc50fb8875dc0e03d368fbdff45d719134531a1", func := "bocage/bocagelaw11.AlgebraLaws", spec := "algebraLaws", unfollowed := true, recurses := true, apart := false, narrowed := true }
def AlgebraLawsUptoSaid : Prop := algebraLawsUptoRow.holds Try.pinned (OpenSpec.upto algebraLawsSpec)

/-- 'bocagelaw11.AlgebraNumbers', WHERE WHAT IT READS IS OF BULK AT MOST 1048576: true; the input reads as it did. -/
def algebraNumbersUptoRow : OpenClaim := { program := "ytlgbeekhaoiggaa", sum := "49e10f62caa7277f11ccce215bc50fb8875dc0e03d368fbdff45d719134531a1", func := "bocage/bocagelaw11.AlgebraNumbers", spec := "algebraNumbers", unfollowed := true, recurses := true, apart := false, narrowed := true }
def AlgebraNumbersUptoSaid : Prop := algebraNumbersUptoRow.holds Try.pinned (OpenSpec.upto algebraNumbersSpec)

/-- 'bocagelaw11.AlgebraNot', WHERE WHAT IT READS IS OF BULK AT MOST 1048576: true; the input reads as it did. -/
def algebraNotUptoRow : OpenClaim := { program := "ytlgbeekhaoiggaa", sum := "49e10f62caa7277f11ccce215bc50fb8875dc0e03d368fbdff45d719134531a1", func := "bocage/bocagelaw11.AlgebraNot", spec := "algebraNot", unfollowed := true, recurses := true, apart := false, narrowed := true }
def AlgebraNotUptoSaid : Prop := algebraNotUptoRow.holds Try.pinned (OpenSpec.upto algebraNotSpec)

end Rows
end Go.Proofs.Ytlgbeekhaoiggaa

/-
  No cell of these rows narrows 'for every input' (looked for: loops, veiled, ifaces, maps, wideKeys, modest, calm, conditions, laid).
  DERIVED. THE GIVEN ROWS OF THIS SEAT. 10 by the template 'for every input the law returns true; each argument reads behind the call as it read before'; 0 by the template 'total and deterministic' (their statements: YtbkbogdengeghaaTotals.lean).
  GIVEN WITH THE SEED: the statements are not yours to turn. If you find one false, say at which input.
  Laid BY PROGRAM, IN A SANDBOX (cutbox-rows.mjs): the forced cells as the released guide's own fill.sh prints them over the translation 0cff91a303f537c7… (all of the seat's roots in one cut). By AI agents, Wed Nov 11 2026. No macro, syntax, notation, axiom, sorry.
-/
import Derived.Test.YtbkbogdengeghaaChecked
import GoSem.Claim
import GoSem.ClaimJoined
import GoSem.ClaimMapViews
import Derived.JoinedTies
import Derived.KernelRfl
namespace Go.Proofs.Ytbkbogdengeghaa
/- THE CELL 'sum', in the pinned program and in every row, IS THE sha256 OF THE DUMP (.gsa) THAT YtbkbogdengeghaaProg.lean LOADS. Nothing in Lean hashes anything: it is a label: what it is worth is what the hold of that sum in a sandbox is worth. -/
noncomputable def Try.pinned : Pinned := { name := "ytbkbogdengeghaa", sum := "0cff91a303f537c7b53b9cc3273983fea811db3434ebe580de70f657cf5b04d7", checked := Try.checked }
namespace Rows
def none {H : Type} : Left H := { results := [], args := [] }

/-- 'dunnagelaw02.SumOf': WHATEVER THE INPUT: true; the input reads as it did. -/
def sumOfSpec : ChangeSpec := { name := "sumOf", fn := fun _ => fun
  | [d1, d2] => { results := [.lit (.bool true)], args := [d1, d2] }
  | _ => none }
def sumOfRow : OpenClaim := { program := "ytbkbogdengeghaa", sum := "0cff91a303f537c7b53b9cc3273983fea811db3434ebe580de70f657cf5b04d7", func := "dunnage/dunnagelaw02.SumOf", spec := "sumOf", apart := false }
def SumOfSaid : Prop := sumOfRow.holds Try.pinned (OpenSpec.ofChange sumOfSpec)

/-- ITS FALSE NEIGHBOUR: 'it returns false'. Refute it at one input. -/
def sumOfWrong : ChangeSpec := { name := "sumOf", fn := fun _ => fun
  | [d1, d2] => { results := [.lit (.bool false)], args := [d1, d2] }
  | _ => none }
def SumOfWrongFalsely : Prop := sumOfRow.holds Try.pinned (OpenSpec.ofChange sumOfWrong)

/-- 'dunnagelaw02.SumPuts': WHATEVER THE INPUT: true; the input reads as it did. -/
def sumPutsSpec : ChangeSpec := { name := "sumPuts", fn := fun _ => fun
  | [d1, d2] => { results := [.lit (.bool true)], args := [d1, d2] }
  | _ => none }
def sumPutsRow : OpenClaim := { program := "ytbkbogdengeghaa", sum := "0cff91a303f537c7b53b9cc3273983fea811db3434ebe580de70f657cf5b04d7", func := "dunnage/dunnagelaw02.SumPuts", spec := "sumPuts", apart := false }
def SumPutsSaid : Prop := sumPutsRow.holds Try.pinned (OpenSpec.ofChange sumPutsSpec)

/-- ITS FALSE NEIGHBOUR: 'it returns false'. Refute it at one input. -/
def sumPutsWrong : ChangeSpec := { name := "sumPuts", fn := fun _ => fun
  | [d1, d2] => { results := [.lit (.bool false)], args := [d1, d2] }
  | _ => none }
def SumPutsWrongFalsely : Prop := sumPutsRow.holds Try.pinned (OpenSpec.ofChange sumPutsWrong)

/-- 'dunnagelaw02.SumParts': WHATEVER THE INPUT: true; the input reads as it did. -/
def sumPartsSpec : ChangeSpec := { name := "sumParts", fn := fun _ => fun
  | [d1, d2, d3, d4] => { results := [.lit (.bool true)], args := [d1, d2, d3, d4] }
  | _ => none }
def sumPartsRow : OpenClaim := { program := "ytbkbogdengeghaa", sum := "0cff91a303f537c7b53b9cc3273983fea811db3434ebe580de70f657cf5b04d7", func := "dunnage/dunnagelaw02.SumParts", spec := "sumParts", apart := false }
def SumPartsSaid : Prop := sumPartsRow.holds Try.pinned (OpenSpec.ofChange sumPartsSpec)

/-- ITS FALSE NEIGHBOUR: 'it returns false'. Refute it at one input. -/
def sumPartsWrong : ChangeSpec := { name := "sumParts", fn := fun _ => fun
  | [d1, d2, d3, d4] => { results := [.lit (.bool false)], args := [d1, d2, d3, d4] }
  | _ => none }
def SumPartsWrongFalsely : Prop := sumPartsRow.holds Try.pinned (OpenSpec.ofChange sumPartsWrong)

/-- 'dunnagelaw02.SumSteps': WHATEVER THE INPUT: true; the input reads as it did. -/
def sumStepsSpec : ChangeSpec := { name := "sumSteps", fn := fun _ => fun
  | [d1, d2, d3] => { results := [.lit (.bool true)], args := [d1, d2, d3] }
  | _ => none }
def sumStepsRow : OpenClaim := { program := "ytbkbogdengeghaa", sum := "0cff91a303f537c7b53b9cc3273983fea811db3434ebe580de70f657cf5b04d7", func := "dunnage/dunnagelaw02.SumSteps", spec := "sumSteps", apart := false }
def SumStepsSaid : Prop := sumStepsRow.holds Try.pinned (OpenSpec.ofChange sumStepsSpec)

/-- ITS FALSE NEIGHBOUR: 'it returns false'. Refute it at one input. -/
def sumStepsWrong : ChangeSpec := { name := "sumSteps", fn := fun _ => fun
  | [d1, d2, d3] => { results := [.lit (.bool false)], args := [d1, d2, d3] }
  | _ => none }
def SumStepsWrongFalsely : Prop := sumStepsRow.holds Try.pinned (OpenSpec.ofChange sumStepsWrong)

/-- 'dunnagelaw02.SumThree': WHATEVER THE INPUT: true; the input reads as it did. -/
def sumThreeSpec : ChangeSpec := { name := "sumThree", fn := fun _ => fun
  | [d1, d2, d3] => { results := [.lit (.bool true)], args := [d1, d2, d3] }
  | _ => none }
def sumThreeRow : OpenClaim := { program := "ytbkbogdengeghaa", sum := "0cff91a303f537c7b53b9cc3273983fea811db3434ebe580de70f657cf5b04d7", func := "dunnage/dunnagelaw02.SumThree", spec := "sumThree", apart := false }
def SumThreeSaid : Prop := sumThreeRow.holds Try.pinned (OpenSpec.ofChange sumThreeSpec)

/-- ITS FALSE NEIGHBOUR: 'it returns false'. Refute it at one input. -/
def sumThreeWrong : ChangeSpec := { name := "sumThree", fn := fun _ => fun
  | [d1, d2, d3] => { results := [.lit (.bool false)], args := [d1, d2, d3] }
  | _ => none }
def SumThreeWrongFalsely : Prop := sumThreeRow.holds Try.pinned (OpenSpec.ofChange sumThreeWrong)

/-- 'dunnagelaw01.CodePuts': WHATEVER THE INPUT: true; the input reads as it did. -/
def codePutsSpec : ChangeSpec := { name := "codePuts", fn := fun _ => fun
  | [d1, d2, d3] => { results := [.lit (.bool true)], args := [d1, d2, d3] }
  | _ => none }
def codePutsRow : OpenClaim := { program := "ytbkbogdengeghaa", sum := "0cff91a303f537c7b53b9cc3273983fea811db3434ebe580de70f657cf5b04d7", func := "dunnage/dunnagelaw01.CodePuts", spec := "codePuts", unfollowed := true, recurses := true, apart := false }
def CodePutsSaid : Prop := codePutsRow.holds Try.pinned (OpenSpec.ofChange codePutsSpec)

/-- ITS FALSE NEIGHBOUR: 'it returns false'. Refute it at one input. -/
def codePutsWrong : ChangeSpec := { name := "codePuts", fn := fun _ => fun
  | [d1, d2, d3] => { results := [.lit (.bool false)], args := [d1, d2, d3] }
  | _ => none }
def CodePutsWrongFalsely : Prop := codePutsRow.holds Try.pinned (OpenSpec.ofChange codePutsWrong)

/-- 'dunnagelaw01.CodeReads': WHATEVER THE INPUT: true; the input reads as it did. -/
def codeReadsSpec : ChangeSpec := { name := "codeReads", fn := fun _ => fun
  | [d1, d2, d3] => { results := [.lit (.bool true)], args := [d1, d2, d3] }
  | _ => none }
def codeReadsRow : OpenClaim := { program := "ytbkbogdengeghaa", sum := "0cff91a303f537c7b53b9cc3273983fea811db3434ebe580de70f657cf5b04d7", func := "dunnage/dunnagelaw01.CodeReads", spec := "codeReads", unfollowed := true, recurses := true, apart := false }
def CodeReadsSaid : Prop := codeReadsRow.holds Try.pinned (OpenSpec.ofChange codeReadsSpec)

/-- ITS FALSE NEIGHBOUR: 'it returns false'. Refute it at one input. -/
def codeReadsWrong : ChangeSpec := { name := "codeReads", fn := fun _ => fun
  | [d1, d2, d3] => { results := [.lit (.bool false)], args := [d1, d2, d3] }
  | _ => none }
def CodeReadsWrongFalsely : Prop := codeReadsRow.holds Try.pinned (OpenSpec.ofChange codeReadsWrong)

/-- 'dunnagelaw01.CodeBack': WHATEVER THE INPUT: true; the input reads as it did. -/
def codeBackSpec : ChangeSpec := { name := "codeBack", fn := fun _ => fun
  | [d1, d2, d3, d4] => { results := [.lit (.bool true)], args := [d1, d2, d3, d4] }
  | _ => none }
def codeBackRow : OpenClaim := { program := "ytbkbogdengeghaa", sum := "0cff91a303f537c7b53b9cc3273983fea811db3434ebe580de70f657cf5b04d7", func := "dunnage/dunnagelaw01.CodeBack", spec := "codeBack", unfollowed := true, recurses := true, apart := false }
def CodeBackSaid : Prop := codeBackRow.holds Try.pinned (OpenSpec.ofChange codeBackSpec)

/-- ITS FALSE NEIGHBOUR: 'it returns false'. Refute it at one input. -/
def codeBackWrong : ChangeSpec := { name := "codeBack", fn := fun _ => fun
  | [d1, d2, d3, d4] => { results := [.lit (.bool false)], args := [d1, d2, d3, d4] }
  | _ => none }
def CodeBackWrongFalsely : Prop := codeBackRow.holds Try.pinned (OpenSpec.ofChange codeBackWrong)

/-- 'dunnagelaw01.CodeShort': WHATEVER THE INPUT: true; the input reads as it did. -/
def codeShortSpec : ChangeSpec := { name := "codeShort", fn := fun _ => fun
  | [d1, d2] => { results := [.lit (.bool true)], args := [d1, d2] }
  | _ => none }
def codeShortRow : OpenClaim := { program := "ytbkbogdengeghaa", sum := "0cff91a303f537c7b53b9cc3273983fea811db3434ebe580de70f657cf5b04d7", func := "dunnage/dunnagelaw01.CodeShort", spec := "codeShort", unfollowed := true, recurses := true, apart := false }
def CodeShortSaid : Prop := codeShortRow.holds Try.pinned (OpenSpec.ofChange codeShortSpec)

/-- ITS FALSE NEIGHBOUR: 'it returns false'. Refute it at one input. -/
def codeShortWrong : ChangeSpec := { name := "codeShort", fn := fun _ => fun
  | [d1, d2] => { results := [.lit (.bool false)], args := [d1, d2] }
  | _ => none }
def CodeShortWrongFalsely : Prop := codeShortRow.holds Try.pinned (OpenSpec.ofChange codeShortWrong)

/-- 'dunnagelaw01.CodeMost': WHATEVER THE INPUT: true; the input reads as it did. -/
def codeMostSpec : ChangeSpec := { name := "codeMost", fn := fun _ => fun
  | [d1, d2, d3] => { results := [.lit (.bool true)], args := [d1, d2, d3] }
  | _ => none }
def codeMostRow : OpenClaim := { program := "ytbkbogdengeghaa", sum := "0cff91a303f537c7b53b9cc3273983fea811db3434ebe580de70f657cf5b04d7", func := "dunnage/dunnagelaw01.CodeMost", spec := "codeMost", unfollowed := true, recurses := true, apart := false }
def CodeMostSaid : Prop := codeMostRow.holds Try.pinned (OpenSpec.ofChange codeMostSpec)

/-- ITS FALSE NEIGHBOUR: 'it returns false'. Refute it at one input. -/
def codeMostWrong : ChangeSpec := { name := "codeMost", fn := fun _ => fun
  | [d1, d2, d3] => { results := [.lit (.bool false)], args := [d1, d2, d3] }
  | _ => none }
def CodeMostWrongFalsely : Prop := codeMostRow.holds Try.pinned (OpenSpec.ofChange codeMostWrong)

/- THE SECOND FORM. 'bulk': how many values and letters a reading holds, each counted each time it is reached (what is shared counts as often as it is met; a slice's spare places count too). A statement '..UptoSaid' is the law's where the arguments, and the package variables that the reading takes, are together of bulk at most 1048576: NARROWER than '..Said'. Prove '..Said' where nothing that the law and all that it calls make is longer than what came in: it says more and counts as full. Else prove '..UptoSaid'. A law counts once. -/
mutual
def uptoBulk {H : Type} : DataW H → Nat
  | .lit (.string bytes) => bytes.length + 1
  | .lit _ => 1
  | .nil => 1
  | .ptr d => uptoBulk d + 1
  | .slice elems spare => uptoBulkAll elems + uptoBulkAll spare + 1
  | .agg parts => uptoBulkAll parts + 1
  | .iface _ d => uptoBulk d + 1
  | .map entries => uptoBulkEntries entries + 1
  | .held _ => 1
def uptoBulkAll {H : Type} : List (DataW H) → Nat
  | [] => 0
  | d :: r => uptoBulk d + uptoBulkAll r
def uptoBulkEntries {H : Type} : List (Lit × DataW H) → Nat
  | [] => 0
  | x :: r => uptoBulkEntry x + uptoBulkEntries r
def uptoBulkEntry {H : Type} : Lit × DataW H → Nat
  | (.string bytes, d) => bytes.length + uptoBulk d + 1
  | (_, d) => uptoBulk d + 1
 end
def uptoSmall : (H : Type) → List (DataW H) → Bool := fun _ ds => decide (uptoBulkAll ds ≤ 1048576)
def OpenSpec.upto (s : _root_.Go.ChangeSpec) : _root_.Go.OpenSpec := { _root_.Go.OpenSpec.ofChange s with cond := some uptoSmall }

/-- 'dunnagelaw02.SumOf', WHERE WHAT IT READS IS OF BULK AT MOST 1048576: true; the input reads as it did. -/
def sumOfUptoRow : OpenClaim := { program := "ytbkbogdengeghaa", sum := "0cff91a303f537c7b53b9cc3273983fea811db3434ebe580de70f657cf5b04d7", func := "dunnage/dunnagelaw02.SumOf", spec := "sumOf", apart := false, narrowed := true }
def SumOfUptoSaid : Prop := sumOfUptoRow.holds Try.pinned (OpenSpec.upto sumOfSpec)

/-- 'dunnagelaw02.SumPuts', WHERE WHAT IT READS IS OF BULK AT MOST 1048576: true; the input reads as it did. -/
def sumPutsUptoRow : OpenClaim := { program := "ytbkbogdengeghaa", sum := "0cff91a303f537c7b53b9cc3273983fea811db3434ebe580de70f657cf5b04d7", func := "dunnage/dunnagelaw02.SumPuts", spec := "sumPuts", apart := false, narrowed := true }
def SumPutsUptoSaid : Prop := sumPutsUptoRow.holds Try.pinned (OpenSpec.upto sumPutsSpec)

/-- 'dunnagelaw02.SumParts', WHERE WHAT IT READS IS OF BULK AT MOST 1048576: true; the input reads as it did. -/
def sumPartsUptoRow : OpenClaim := { program := "ytbkbogdengeghaa", sum := "0cff91a303f537c7b53b9cc3273983fea811db3434ebe580de70f657cf5b04d7", func := "dunnage/dunnagelaw02.SumParts", spec := "sumParts", apart := false, narrowed := true }
def SumPartsUptoSaid : Prop := sumPartsUptoRow.holds Try.pinned (OpenSpec.upto sumPartsSpec)

/-- 'dunnagelaw02.SumSteps', WHERE WHAT IT READS IS OF BULK AT MOST 1048576: true; the input reads as it did. -/
def sumStepsUptoRow : OpenClaim := { program := "ytbkbogdengeghaa", sum := "0cff91a303f537c7b53b9cc3273983fea811db3434ebe580de70f657cf5b04d7", func := "dunnage/dunnagelaw02.SumSteps", spec := "sumSteps", apart := false, narrowed := true }
def SumStepsUptoSaid : Prop := sumStepsUptoRow.holds Try.pinned (OpenSpec.upto sumStepsSpec)

/-- 'dunnagelaw02.SumThree', WHERE WHAT IT READS IS OF BULK AT MOST 1048576: true; the input reads as it did. -/
def sumThreeUptoRow : OpenClaim := { program := "ytbkbogdengeghaa", sum := "0cff91a303f537c7b53b9cc3273983fea811db3434ebe580de70f657cf5b04d7", func := "dunnage/dunnagelaw02.SumThree", spec := "sumThree", apart := false, narrowed := true }
def SumThreeUptoSaid : Prop := sumThreeUptoRow.holds Try.pinned (OpenSpec.upto sumThreeSpec)

/-- 'dunnagelaw01.CodePuts', WHERE WHAT IT READS IS OF BULK AT MOST 1048576: true; the input reads as it did. -/
def codePutsUptoRow : OpenClaim := { program := "ytbkbogdengeghaa", sum := "0cff91a303f537c7b53b9cc3273983fea811db3434ebe580de70f657cf5b04d7", func := "dunnage/dunnagelaw01.CodePuts", spec := "codePuts", unfollowed := true, recurses := true, apart := false, narrowed := true }
def CodePutsUptoSaid : Prop := codePutsUptoRow.holds Try.pinned (OpenSpec.upto codePutsSpec)

/-- 'dunnagelaw01.CodeReads', WHERE WHAT IT READS IS OF BULK AT MOST 1048576: true; the input reads as it did. -/
def codeReadsUptoRow : OpenClaim := { program := "ytbkbogdengeghaa", sum := "0cff91a303f537c7b53b9cc3273983fea811db3434ebe580de70f657cf5b04d7", func := "dunnage/dunnagelaw01.CodeReads", spec := "codeReads", unfollowed := true, recurses := true, apart := false, narrowed := true }
def CodeReadsUptoSaid : Prop := codeReadsUptoRow.holds Try.pinned (OpenSpec.upto codeReadsSpec)

/-- 'dunnagelaw01.CodeBack', WHERE WHAT IT READS IS OF BULK AT MOST 1048576: true; the input reads as it did. -/
def codeBackUptoRow : OpenClaim := { program := "ytbkbogdengeghaa", sum := "0cff91a303f537c7b53b9cc3273983fea811db3434ebe580de70f657cf5b04d7", func := "dunnage/dunnagelaw01.CodeBack", spec := "codeBack", unfollowed := true, recurses := true, apart := false, narrowed := true }
def CodeBackUptoSaid : Prop := codeBackUptoRow.holds Try.pinned (OpenSpec.upto codeBackSpec)

/-- 'dunnagelaw01.CodeShort', WHERE WHAT IT READS IS OF BULK AT MOST 1048576: true; the input reads as it did. -/
def codeShortUptoRow : OpenClaim := { program := "ytbkbogdengeghaa", sum := "0cff91a303f537c7b53b9cc3273983fea811db3434ebe580de70f657cf5b04d7", func := "dunnage/dunnagelaw01.CodeShort", spec := "codeShort", unfollowed := true, recurses := true, apart := false, narrowed := true }
def CodeShortUptoSaid : Prop := codeShortUptoRow.holds Try.pinned (OpenSpec.upto codeShortSpec)

/-- 'dunnagelaw01.CodeMost', WHERE WHAT IT READS IS OF BULK AT MOST 1048576: true; the input reads as it did. -/
def codeMostUptoRow : OpenClaim := { program := "ytbkbogdengeghaa", sum := "0cff91a303f537c7b53b9cc3273983fea811db3434ebe580de70f657cf5b04d7", func := "dunnage/dunnagelaw01.CodeMost", spec := "codeMost", unfollowed := true, recurses := true, apart := false, narrowed := true }
def CodeMostUptoSaid : Prop := codeMostUptoRow.holds Try.pinned (OpenSpec.upto codeMostSpec)

end Rows
end Go.Proofs.Ytbkbogdengeghaa

/-
  No cell of these rows narrows 'for every input' (looked for: loops, veiled, ifaces, maps, wideKeys, modest, calm, conditions, laid).
  DERIVED. THE GIVEN ROWS OF THIS SEAT. 10 by the template 'for every input the law returns true; each argument reads behind the call as it read before'; 0 by the template 'total and deterministic' (their statements: YtiilhfmmclhflaaTotals.lean).
  GIVEN WITH THE SEED: the statements are not yours to turn. If you find one false, say at which input.
  Laid BY PROGRAM, IN A SANDBOX (cutbox-rows.mjs): the forced cells as the released guide's own fill.sh prints them over the translation 02f312c588a91d8f… (all of the seat's roots in one cut). By AI agents, Wed Nov 11 2026. No macro, syntax, notation, axiom, sorry.
-/
import Derived.Test.YtiilhfmmclhflaaChecked
import GoSem.Claim
import GoSem.ClaimJoined
import GoSem.ClaimMapViews
import Derived.JoinedTies
import Derived.KernelRfl
namespace Go.Proofs.Ytiilhfmmclhflaa
/- THE CELL 'sum', in the pinned program and in every row, IS THE sha256 OF THE DUMP (.gsa) THAT YtiilhfmmclhflaaProg.lean LOADS. Nothing in Lean hashes anything: it is a label: what it is worth is what the hold of that sum in a sandbox is worth. -/
noncomputable def Try.pinned : Pinned := { name := "ytiilhfmmclhflaa", sum := "02f312c588a91d8fe441e78ac491e76cd6dc71f6a07b45979442a6fca74c5331", checked := Try.checked }
namespace Rows
def none {H : Type} : Left H := { results := [], args := [] }

/-- 'dunnagelaw11.StoreTwice': WHATEVER THE INPUT: true; the input reads as it did. -/
def storeTwiceSpec : ChangeSpec := { name := "storeTwice", fn := fun _ => fun
  | [d1, d2, d3, d4, d5] => { results := [.lit (.bool true)], args := [d1, d2, d3, d4, d5] }
  | _ => none }
def storeTwiceRow : OpenClaim := { program := "ytiilhfmmclhflaa", sum := "02f312c588a91d8fe441e78ac491e76cd6dc71f6a07b45979442a6fca74c5331", func := "dunnage/dunnagelaw11.StoreTwice", spec := "storeTwice", inPlace := ["sync/atomic.AddInt64", "sync/atomic.LoadInt64"], apart := false }
def StoreTwiceSaid : Prop := storeTwiceRow.holds Try.pinned (OpenSpec.ofChange storeTwiceSpec)

/-- ITS FALSE NEIGHBOUR: 'it returns false'. Refute it at one input. -/
def storeTwiceWrong : ChangeSpec := { name := "storeTwice", fn := fun _ => fun
  | [d1, d2, d3, d4, d5] => { results := [.lit (.bool false)], args := [d1, d2, d3, d4, d5] }
  | _ => none }
def StoreTwiceWrongFalsely : Prop := storeTwiceRow.holds Try.pinned (OpenSpec.ofChange storeTwiceWrong)

/-- 'dunnagelaw11.StoreFence': WHATEVER THE INPUT: true; the input reads as it did. -/
def storeFenceSpec : ChangeSpec := { name := "storeFence", fn := fun _ => fun
  | [d1, d2, d3] => { results := [.lit (.bool true)], args := [d1, d2, d3] }
  | _ => none }
def storeFenceRow : OpenClaim := { program := "ytiilhfmmclhflaa", sum := "02f312c588a91d8fe441e78ac491e76cd6dc71f6a07b45979442a6fca74c5331", func := "dunnage/dunnagelaw11.StoreFence", spec := "storeFence", inPlace := ["sync/atomic.AddInt64", "sync/atomic.LoadInt64"], apart := false }
def StoreFenceSaid : Prop := storeFenceRow.holds Try.pinned (OpenSpec.ofChange storeFenceSpec)

/-- ITS FALSE NEIGHBOUR: 'it returns false'. Refute it at one input. -/
def storeFenceWrong : ChangeSpec := { name := "storeFence", fn := fun _ => fun
  | [d1, d2, d3] => { results := [.lit (.bool false)], args := [d1, d2, d3] }
  | _ => none }
def StoreFenceWrongFalsely : Prop := storeFenceRow.holds Try.pinned (OpenSpec.ofChange storeFenceWrong)

/-- 'dunnagelaw11.StoreEnds': WHATEVER THE INPUT: true; the input reads as it did. -/
def storeEndsSpec : ChangeSpec := { name := "storeEnds", fn := fun _ => fun
  | [d1, d2] => { results := [.lit (.bool true)], args := [d1, d2] }
  | _ => none }
def storeEndsRow : OpenClaim := { program := "ytiilhfmmclhflaa", sum := "02f312c588a91d8fe441e78ac491e76cd6dc71f6a07b45979442a6fca74c5331", func := "dunnage/dunnagelaw11.StoreEnds", spec := "storeEnds", inPlace := ["sync/atomic.AddInt64", "sync/atomic.LoadInt64"], apart := false }
def StoreEndsSaid : Prop := storeEndsRow.holds Try.pinned (OpenSpec.ofChange storeEndsSpec)

/-- ITS FALSE NEIGHBOUR: 'it returns false'. Refute it at one input. -/
def storeEndsWrong : ChangeSpec := { name := "storeEnds", fn := fun _ => fun
  | [d1, d2] => { results := [.lit (.bool false)], args := [d1, d2] }
  | _ => none }
def StoreEndsWrongFalsely : Prop := storeEndsRow.holds Try.pinned (OpenSpec.ofChange storeEndsWrong)

/-- 'dunnagelaw11.StoreActs': WHATEVER THE INPUT: true; the input reads as it did. -/
def storeActsSpec : ChangeSpec := { name := "storeActs", fn := fun _ => fun
  | [d1, d2] => { results := [.lit (.bool true)], args := [d1, d2] }
  | _ => none }
def storeActsRow : OpenClaim := { program := "ytiilhfmmclhflaa", sum := "02f312c588a91d8fe441e78ac491e76cd6dc71f6a07b45979442a6fca74c5331", func := "dunnage/dunnagelaw11.StoreActs", spec := "storeActs", inPlace := ["sync/atomic.AddInt64", "sync/atomic.LoadInt64"], apart := false }
def StoreActsSaid : Prop := storeActsRow.holds Try.pinned (OpenSpec.ofChange storeActsSpec)

/-- ITS FALSE NEIGHBOUR: 'it returns false'. Refute it at one input. -/
def storeActsWrong : ChangeSpec := { name := "storeActs", fn := fun _ => fun
  | [d1, d2] => { results := [.lit (.bool false)], args := [d1, d2] }
  | _ => none }
def StoreActsWrongFalsely : Prop := storeActsRow.holds Try.pinned (OpenSpec.ofChange storeActsWrong)

/-- 'dunnagelaw11.StoreKeeps': WHATEVER THE INPUT: true; the input reads as it did. -/
def storeKeepsSpec : ChangeSpec := { name := "storeKeeps", fn := fun _ => fun
  | [d1, d2, d3] => { results := [.lit (.bool true)], args := [d1, d2, d3] }
  | _ => none }
def storeKeepsRow : OpenClaim := { program := "ytiilhfmmclhflaa", sum := "02f312c588a91d8fe441e78ac491e76cd6dc71f6a07b45979442a6fca74c5331", func := "dunnage/dunnagelaw11.StoreKeeps", spec := "storeKeeps", inPlace := ["sync/atomic.AddInt64", "sync/atomic.LoadInt64"], apart := false }
def StoreKeepsSaid : Prop := storeKeepsRow.holds Try.pinned (OpenSpec.ofChange storeKeepsSpec)

/-- ITS FALSE NEIGHBOUR: 'it returns false'. Refute it at one input. -/
def storeKeepsWrong : ChangeSpec := { name := "storeKeeps", fn := fun _ => fun
  | [d1, d2, d3] => { results := [.lit (.bool false)], args := [d1, d2, d3] }
  | _ => none }
def StoreKeepsWrongFalsely : Prop := storeKeepsRow.holds Try.pinned (OpenSpec.ofChange storeKeepsWrong)

/-- 'dunnagelaw13.AgentRests': WHATEVER THE INPUT: true; the input reads as it did. -/
def agentRestsSpec : ChangeSpec := { name := "agentRests", fn := fun _ => fun
  | [d1, d2, d3] => { results := [.lit (.bool true)], args := [d1, d2, d3] }
  | _ => none }
def agentRestsRow : OpenClaim := { program := "ytiilhfmmclhflaa", sum := "02f312c588a91d8fe441e78ac491e76cd6dc71f6a07b45979442a6fca74c5331", func := "dunnage/dunnagelaw13.AgentRests", spec := "agentRests", inPlace := ["sync/atomic.AddInt64"], unfollowed := true, recurses := true, apart := false }
def AgentRestsSaid : Prop := agentRestsRow.holds Try.pinned (OpenSpec.ofChange agentRestsSpec)

/-- ITS FALSE NEIGHBOUR: 'it returns false'. Refute it at one input. -/
def agentRestsWrong : ChangeSpec := { name := "agentRests", fn := fun _ => fun
  | [d1, d2, d3] => { results := [.lit (.bool false)], args := [d1, d2, d3] }
  | _ => none }
def AgentRestsWrongFalsely : Prop := agentRestsRow.holds Try.pinned (OpenSpec.ofChange agentRestsWrong)

/-- 'dunnagelaw13.AgentLease': WHATEVER THE INPUT: true; the input reads as it did. -/
def agentLeaseSpec : ChangeSpec := { name := "agentLease", fn := fun _ => fun
  | [d1, d2, d3] => { results := [.lit (.bool true)], args := [d1, d2, d3] }
  | _ => none }
def agentLeaseRow : OpenClaim := { program := "ytiilhfmmclhflaa", sum := "02f312c588a91d8fe441e78ac491e76cd6dc71f6a07b45979442a6fca74c5331", func := "dunnage/dunnagelaw13.AgentLease", spec := "agentLease", inPlace := ["sync/atomic.AddInt64"], unfollowed := true, recurses := true, apart := false }
def AgentLeaseSaid : Prop := agentLeaseRow.holds Try.pinned (OpenSpec.ofChange agentLeaseSpec)

/-- ITS FALSE NEIGHBOUR: 'it returns false'. Refute it at one input. -/
def agentLeaseWrong : ChangeSpec := { name := "agentLease", fn := fun _ => fun
  | [d1, d2, d3] => { results := [.lit (.bool false)], args := [d1, d2, d3] }
  | _ => none }
def AgentLeaseWrongFalsely : Prop := agentLeaseRow.holds Try.pinned (OpenSpec.ofChange agentLeaseWrong)

/-- 'dunnagelaw13.AgentTells': WHATEVER THE INPUT: true; the input reads as it did. -/
def agentTellsSpec : ChangeSpec := { name := "agentTells", fn := fun _ => fun
  | [d1, d2, d3, d4] => { results := [.lit (.bool true)], args := [d1, d2, d3, d4] }
  | _ => none }
def agentTellsRow : OpenClaim := { program := "ytiilhfmmclhflaa", sum := "02f312c588a91d8fe441e78ac491e76cd6dc71f6a07b45979442a6fca74c5331", func := "dunnage/dunnagelaw13.AgentTells", spec := "agentTells", inPlace := ["sync/atomic.AddInt64"], unfollowed := true, recurses := true, apart := false }
def AgentTellsSaid : Prop := agentTellsRow.holds Try.pinned (OpenSpec.ofChange agentTellsSpec)

/-- ITS FALSE NEIGHBOUR: 'it returns false'. Refute it at one input. -/
def agentTellsWrong : ChangeSpec := { name := "agentTells", fn := fun _ => fun
  | [d1, d2, d3, d4] => { results := [.lit (.bool false)], args := [d1, d2, d3, d4] }
  | _ => none }
def AgentTellsWrongFalsely : Prop := agentTellsRow.holds Try.pinned (OpenSpec.ofChange agentTellsWrong)

/-- 'dunnagelaw13.AgentMay': WHATEVER THE INPUT: true; the input reads as it did. -/
def agentMaySpec : ChangeSpec := { name := "agentMay", fn := fun _ => fun
  | [d] => { results := [.lit (.bool true)], args := [d] }
  | _ => none }
def agentMayRow : OpenClaim := { program := "ytiilhfmmclhflaa", sum := "02f312c588a91d8fe441e78ac491e76cd6dc71f6a07b45979442a6fca74c5331", func := "dunnage/dunnagelaw13.AgentMay", spec := "agentMay", inPlace := ["sync/atomic.AddInt64"], unfollowed := true, recurses := true, apart := false }
def AgentMaySaid : Prop := agentMayRow.holds Try.pinned (OpenSpec.ofChange agentMaySpec)

/-- ITS FALSE NEIGHBOUR: 'it returns false'. Refute it at one input. -/
def agentMayWrong : ChangeSpec := { name := "agentMay", fn := fun _ => fun
  | [d] => { results := [.lit (.bool false)], args := [d] }
  | _ => none }
def AgentMayWrongFalsely : Prop := agentMayRow.holds Try.pinned (OpenSpec.ofChange agentMayWrong)

/-- 'dunnagelaw13.AgentTakes': WHATEVER THE INPUT: true; the input reads as it did. -/
def agentTakesSpec : ChangeSpec := { name := "agentTakes", fn := fun _ => fun
  | [d1, d2, d3, d4] => { results := [.lit (.bool true)], args := [d1, d2, d3, d4] }
  | _ => none }
def agentTakesRow : OpenClaim := { program := "ytiilhfmmclhflaa", sum := "02f312c588a91d8fe441e78ac491e76cd6dc71f6a07b45979442a6fca74c5331", func := "dunnage/dunnagelaw13.AgentTakes", spec := "agentTakes", inPlace := ["sync/atomic.AddInt64"], unfollowed := true, recurses := true, apart := false }
def AgentTakesSaid : Prop := agentTakesRow.holds Try.pinned (OpenSpec.ofChange agentTakesSpec)

/-- ITS FALSE NEIGHBOUR: 'it returns false'. Refute it at one input. -/
def agentTakesWrong : ChangeSpec := { name := "agentTakes", fn := fun _ => fun
  | [d1, d2, d3, d4] => { results := [.lit (.bool false)], args := [d1, d2, d3, d4] }
  | _ => none }
def AgentTakesWrongFalsely : Prop := agentTakesRow.holds Try.pinned (OpenSpec.ofChange agentTakesWrong)

/- THE SECOND FORM. 'bulk': how many values and letters a reading holds, each counted each time it is reached (what is shared counts as often as it is met; a slice's spare places count too). A statement '..UptoSaid' is the law's where the arguments, and the package variables that the reading takes, are together of bulk at most 1048576: NARROWER than '..Said'. Prove '..Said' where nothing that the law and all that it calls make is longer than what came in: it says more and counts as full. Else prove '..UptoSaid'. A law counts once. -/
mutual
def uptoBulk {H : Type} : DataW H → Nat
  | .lit (.string bytes) => bytes.length + 1
  | .lit _ => 1
  | .nil => 1
  | .ptr d => uptoBulk d + 1
  | .slice elems spare => uptoBulkAll elems + uptoBulkAll spare + 1
  | .agg parts => uptoBulkAll parts + 1
  | .iface _ d => uptoBulk d + 1
  | .map entries => uptoBulkEntries entries + 1
  | .held _ => 1
def uptoBulkAll {H : Type} : List (DataW H) → Nat
  | [] => 0
  | d :: r => uptoBulk d + uptoBulkAll r
def uptoBulkEntries {H : Type} : List (Lit × DataW H) → Nat
  | [] => 0
  | x :: r => uptoBulkEntry x + uptoBulkEntries r
def uptoBulkEntry {H : Type} : Lit × DataW H → Nat
  | (.string bytes, d) => bytes.length + uptoBulk d + 1
  | (_, d) => uptoBulk d + 1
 end
def uptoSmall : (H : Type) → List (DataW H) → Bool := fun _ ds => decide (uptoBulkAll ds ≤ 1048576)
def OpenSpec.upto (s : _root_.Go.ChangeSpec) : _root_.Go.OpenSpec := { _root_.Go.OpenSpec.ofChange s with cond := some uptoSmall }

/-- 'dunnagelaw11.StoreTwice', WHERE WHAT IT READS IS OF BULK AT MOST 1048576: true; the input reads as it did. -/
def storeTwiceUptoRow : OpenClaim := { program := "ytiilhfmmclhflaa", sum := "02f312c588a91d8fe441e78ac491e76cd6dc71f6a07b45979442a6fca74c5331", func := "dunnage/dunnagelaw11.StoreTwice", spec := "storeTwice", inPlace := ["sync/atomic.AddInt64", "sync/atomic.LoadInt64"], apart := false, narrowed := true }
def StoreTwiceUptoSaid : Prop := storeTwiceUptoRow.holds Try.pinned (OpenSpec.upto storeTwiceSpec)

/-- 'dunnagelaw11.StoreFence', WHERE WHAT IT READS IS OF BULK AT MOST 1048576: true; the input reads as it did. -/
def storeFenceUptoRow : OpenClaim := { program := "ytiilhfmmclhflaa", sum := "02f312c588a91d8fe441e78ac491e76cd6dc71f6a07b45979442a6fca74c5331", func := "dunnage/dunnagelaw11.StoreFence", spec := "storeFence", inPlace := ["sync/atomic.AddInt64", "sync/atomic.LoadInt64"], apart := false, narrowed := true }
def StoreFenceUptoSaid : Prop := storeFenceUptoRow.holds Try.pinned (OpenSpec.upto storeFenceSpec)

/-- 'dunnagelaw11.StoreEnds', WHERE WHAT IT READS IS OF BULK AT MOST 1048576: true; the input reads as it did. -/
def storeEndsUptoRow : OpenClaim := { program := "ytiilhfmmclhflaa", sum := "02f312c588a91d8fe441e78ac491e76cd6dc71f6a07b45979442a6fca74c5331", func := "dunnage/dunnagelaw11.StoreEnds", spec := "storeEnds", inPlace := ["sync/atomic.AddInt64", "sync/atomic.LoadInt64"], apart := false, narrowed := true }
def StoreEndsUptoSaid : Prop := storeEndsUptoRow.holds Try.pinned (OpenSpec.upto storeEndsSpec)

/-- 'dunnagelaw11.StoreActs', WHERE WHAT IT READS IS OF BULK AT MOST 1048576: true; the input reads as it did. -/
def storeActsUptoRow : OpenClaim := { program := "ytiilhfmmclhflaa", sum := "02f312c588a91d8fe441e78ac491e76cd6dc71f6a07b45979442a6fca74c5331", func := "dunnage/dunnagelaw11.StoreActs", spec := "storeActs", inPlace := ["sync/atomic.AddInt64", "sync/atomic.LoadInt64"], apart := false, narrowed := true }
def StoreActsUptoSaid : Prop := storeActsUptoRow.holds Try.pinned (OpenSpec.upto storeActsSpec)

/-- 'dunnagelaw11.StoreKeeps', WHERE WHAT IT READS IS OF BULK AT MOST 1048576: true; the input reads as it did. -/
def storeKeepsUptoRow : OpenClaim := { program := "ytiilhfmmclhflaa", sum := "02f312c588a91d8fe441e78ac491e76cd6dc71f6a07b45979442a6fca74c5331", func := "dunnage/dunnagelaw11.StoreKeeps", spec := "storeKeeps", inPlace := ["sync/atomic.AddInt64", "sync/atomic.LoadInt64"], apart := false, narrowed := true }
def StoreKeepsUptoSaid : Prop := storeKeepsUptoRow.holds Try.pinned (OpenSpec.upto storeKeepsSpec)

/-- 'dunnagelaw13.AgentRests', WHERE WHAT IT READS IS OF BULK AT MOST 1048576: true; the input reads as it did. -/
def agentRestsUptoRow : OpenClaim := { program := "ytiilhfmmclhflaa", sum := "02f312c588a91d8fe441e78ac491e76cd6dc71f6a07b45979442a6fca74c5331", func := "dunnage/dunnagelaw13.AgentRests", spec := "agentRests", inPlace := ["sync/atomic.AddInt64"], unfollowed := true, recurses := true, apart := false, narrowed := true }
def AgentRestsUptoSaid : Prop := agentRestsUptoRow.holds Try.pinned (OpenSpec.upto agentRestsSpec)

/-- 'dunnagelaw13.AgentLease', WHERE WHAT IT READS IS OF BULK AT MOST 1048576: true; the input reads as it did. -/
def agentLeaseUptoRow : OpenClaim := { program := "ytiilhfmmclhflaa", sum := "02f312c588a91d8fe441e78ac491e76cd6dc71f6a07b45979442a6fca74c5331", func := "dunnage/dunnagelaw13.AgentLease", spec := "agentLease", inPlace := ["sync/atomic.AddInt64"], unfollowed := true, recurses := true, apart := false, narrowed := true }
def AgentLeaseUptoSaid : Prop := agentLeaseUptoRow.holds Try.pinned (OpenSpec.upto agentLeaseSpec)

/-- 'dunnagelaw13.AgentTells', WHERE WHAT IT READS IS OF BULK AT MOST 1048576: true; the input reads as it did. -/
def agentTellsUptoRow : OpenClaim := { program := "ytiilhfmmclhflaa", sum := "02f312c588a91d8fe441e78ac491e76cd6dc71f6a07b45979442a6fca74c5331", func := "dunnage/dunnagelaw13.AgentTells", spec := "agentTells", inPlace := ["sync/atomic.AddInt64"], unfollowed := true, recurses := true, apart := false, narrowed := true }
def AgentTellsUptoSaid : Prop := agentTellsUptoRow.holds Try.pinned (OpenSpec.upto agentTellsSpec)

/-- 'dunnagelaw13.AgentMay', WHERE WHAT IT READS IS OF BULK AT MOST 1048576: true; the input reads as it did. -/
def agentMayUptoRow : OpenClaim := { program := "ytiilhfmmclhflaa", sum := "02f312c588a91d8fe441e78ac491e76cd6dc71f6a07b45979442a6fca74c5331", func := "dunnage/dunnagelaw13.AgentMay", spec := "agentMay", inPlace := ["sync/atomic.AddInt64"], unfollowed := true, recurses := true, apart := false, narrowed := true }
def AgentMayUptoSaid : Prop := agentMayUptoRow.holds Try.pinned (OpenSpec.upto agentMaySpec)

/-- 'dunnagelaw13.AgentTakes', WHERE WHAT IT READS IS OF BULK AT MOST 1048576: true; the input reads as it did. -/
def agentTakesUptoRow : OpenClaim := { program := "ytiilhfmmclhflaa", sum := "02f312c588a91d8fe441e78ac491e76cd6dc71f6a07b45979442a6fca74c5331", func := "dunnage/dunnagelaw13.AgentTakes", spec := "agentTakes", inPlace := ["sync/atomic.AddInt64"], unfollowed := true, recurses := true, apart := false, narrowed := true }
def AgentTakesUptoSaid : Prop := agentTakesUptoRow.holds Try.pinned (OpenSpec.upto agentTakesSpec)

end Rows
end Go.Proofs.Ytiilhfmmclhflaa

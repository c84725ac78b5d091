/-
  No cell of these rows narrows 'for every input' (looked for: loops, veiled, ifaces, maps, wideKeys, modest, calm, conditions, laid).
  DERIVED. THE GIVEN ROWS OF THIS SEAT. 9 by the template 'for every input the law returns true; each argument reads behind the call as it read before'; 0 by the template 'total and deterministic' (their statements: YtkkailggpfmgaaaTotals.lean).
  GIVEN WITH THE SEED: the statements are not yours to turn. If you find one false, say at which input.
  Laid BY PROGRAM, IN A SANDBOX (cutbox-rows.mjs): the forced cells as the released guide's own fill.sh prints them over the translation 5d61e82a68f501cb… (all of the seat's roots in one cut). By AI agents, Wed Nov 11 2026. No macro, syntax, notation, axiom, sorry.
-/
import Derived.Test.YtkkailggpfmgaaaChecked
import GoSem.Claim
import GoSem.ClaimJoined
import GoSem.ClaimMapViews
import Derived.JoinedTies
import Derived.KernelRfl
namespace Go.Proofs.Ytkkailggpfmgaaa
/- THE CELL 'sum', in the pinned program and in every row, IS THE sha256 OF THE DUMP (.gsa) THAT YtkkailggpfmgaaaProg.lean LOADS. Nothing in Lean hashes anything: it is a label: what it is worth is what the hold of that sum in a sandbox is worth. -/
noncomputable def Try.pinned : Pinned := { name := "ytkkailggpfmgaaa", sum := "5d61e82a68f501cb27a07c04d510d5483aaec5ca8d59e2f9a8811aed12b51ff9", checked := Try.checked }
namespace Rows
def none {H : Type} : Left H := { results := [], args := [] }

/-- 'dunnagelaw05.LogTorn': WHATEVER THE INPUT: true; the input reads as it did. -/
def logTornSpec : ChangeSpec := { name := "logTorn", fn := fun _ => fun
  | [d] => { results := [.lit (.bool true)], args := [d] }
  | _ => none }
def logTornRow : OpenClaim := { program := "ytkkailggpfmgaaa", sum := "5d61e82a68f501cb27a07c04d510d5483aaec5ca8d59e2f9a8811aed12b51ff9", func := "dunnage/dunnagelaw05.LogTorn", spec := "logTorn", inPlace := ["sync/atomic.AddInt64"], apart := false }
def LogTornSaid : Prop := logTornRow.holds Try.pinned (OpenSpec.ofChange logTornSpec)

/-- ITS FALSE NEIGHBOUR: 'it returns false'. Refute it at one input. -/
def logTornWrong : ChangeSpec := { name := "logTorn", fn := fun _ => fun
  | [d] => { results := [.lit (.bool false)], args := [d] }
  | _ => none }
def LogTornWrongFalsely : Prop := logTornRow.holds Try.pinned (OpenSpec.ofChange logTornWrong)

/-- 'dunnagelaw05.LogRooms': WHATEVER THE INPUT: true; the input reads as it did. -/
def logRoomsSpec : ChangeSpec := { name := "logRooms", fn := fun _ => fun
  | [d1, d2] => { results := [.lit (.bool true)], args := [d1, d2] }
  | _ => none }
def logRoomsRow : OpenClaim := { program := "ytkkailggpfmgaaa", sum := "5d61e82a68f501cb27a07c04d510d5483aaec5ca8d59e2f9a8811aed12b51ff9", func := "dunnage/dunnagelaw05.LogRooms", spec := "logRooms", inPlace := ["sync/atomic.AddInt64"], apart := false }
def LogRoomsSaid : Prop := logRoomsRow.holds Try.pinned (OpenSpec.ofChange logRoomsSpec)

/-- ITS FALSE NEIGHBOUR: 'it returns false'. Refute it at one input. -/
def logRoomsWrong : ChangeSpec := { name := "logRooms", fn := fun _ => fun
  | [d1, d2] => { results := [.lit (.bool false)], args := [d1, d2] }
  | _ => none }
def LogRoomsWrongFalsely : Prop := logRoomsRow.holds Try.pinned (OpenSpec.ofChange logRoomsWrong)

/-- 'dunnagelaw05.LogSame': WHATEVER THE INPUT: true; the input reads as it did. -/
def logSameSpec : ChangeSpec := { name := "logSame", fn := fun _ => fun
  | [d1, d2] => { results := [.lit (.bool true)], args := [d1, d2] }
  | _ => none }
def logSameRow : OpenClaim := { program := "ytkkailggpfmgaaa", sum := "5d61e82a68f501cb27a07c04d510d5483aaec5ca8d59e2f9a8811aed12b51ff9", func := "dunnage/dunnagelaw05.LogSame", spec := "logSame", inPlace := ["sync/atomic.AddInt64"], apart := false }
def LogSameSaid : Prop := logSameRow.holds Try.pinned (OpenSpec.ofChange logSameSpec)

/-- ITS FALSE NEIGHBOUR: 'it returns false'. Refute it at one input. -/
def logSameWrong : ChangeSpec := { name := "logSame", fn := fun _ => fun
  | [d1, d2] => { results := [.lit (.bool false)], args := [d1, d2] }
  | _ => none }
def LogSameWrongFalsely : Prop := logSameRow.holds Try.pinned (OpenSpec.ofChange logSameWrong)

/-- 'dunnagelaw06.SlotsActs': WHATEVER THE INPUT: true; the input reads as it did. -/
def slotsActsSpec : ChangeSpec := { name := "slotsActs", fn := fun _ => fun
  | [d1, d2, d3, d4] => { results := [.lit (.bool true)], args := [d1, d2, d3, d4] }
  | _ => none }
def slotsActsRow : OpenClaim := { program := "ytkkailggpfmgaaa", sum := "5d61e82a68f501cb27a07c04d510d5483aaec5ca8d59e2f9a8811aed12b51ff9", func := "dunnage/dunnagelaw06.SlotsActs", spec := "slotsActs", inPlace := ["sync/atomic.AddInt64"], unfollowed := true, recurses := true, apart := false }
def SlotsActsSaid : Prop := slotsActsRow.holds Try.pinned (OpenSpec.ofChange slotsActsSpec)

/-- ITS FALSE NEIGHBOUR: 'it returns false'. Refute it at one input. -/
def slotsActsWrong : ChangeSpec := { name := "slotsActs", fn := fun _ => fun
  | [d1, d2, d3, d4] => { results := [.lit (.bool false)], args := [d1, d2, d3, d4] }
  | _ => none }
def SlotsActsWrongFalsely : Prop := slotsActsRow.holds Try.pinned (OpenSpec.ofChange slotsActsWrong)

/-- 'dunnagelaw06.SlotsTorn': WHATEVER THE INPUT: true; the input reads as it did. -/
def slotsTornSpec : ChangeSpec := { name := "slotsTorn", fn := fun _ => fun
  | [d] => { results := [.lit (.bool true)], args := [d] }
  | _ => none }
def slotsTornRow : OpenClaim := { program := "ytkkailggpfmgaaa", sum := "5d61e82a68f501cb27a07c04d510d5483aaec5ca8d59e2f9a8811aed12b51ff9", func := "dunnage/dunnagelaw06.SlotsTorn", spec := "slotsTorn", inPlace := ["sync/atomic.AddInt64"], unfollowed := true, recurses := true, apart := false }
def SlotsTornSaid : Prop := slotsTornRow.holds Try.pinned (OpenSpec.ofChange slotsTornSpec)

/-- ITS FALSE NEIGHBOUR: 'it returns false'. Refute it at one input. -/
def slotsTornWrong : ChangeSpec := { name := "slotsTorn", fn := fun _ => fun
  | [d] => { results := [.lit (.bool false)], args := [d] }
  | _ => none }
def SlotsTornWrongFalsely : Prop := slotsTornRow.holds Try.pinned (OpenSpec.ofChange slotsTornWrong)

/-- 'dunnagelaw06.SlotsLast': WHATEVER THE INPUT: true; the input reads as it did. -/
def slotsLastSpec : ChangeSpec := { name := "slotsLast", fn := fun _ => fun
  | [d] => { results := [.lit (.bool true)], args := [d] }
  | _ => none }
def slotsLastRow : OpenClaim := { program := "ytkkailggpfmgaaa", sum := "5d61e82a68f501cb27a07c04d510d5483aaec5ca8d59e2f9a8811aed12b51ff9", func := "dunnage/dunnagelaw06.SlotsLast", spec := "slotsLast", inPlace := ["sync/atomic.AddInt64"], unfollowed := true, recurses := true, apart := false }
def SlotsLastSaid : Prop := slotsLastRow.holds Try.pinned (OpenSpec.ofChange slotsLastSpec)

/-- ITS FALSE NEIGHBOUR: 'it returns false'. Refute it at one input. -/
def slotsLastWrong : ChangeSpec := { name := "slotsLast", fn := fun _ => fun
  | [d] => { results := [.lit (.bool false)], args := [d] }
  | _ => none }
def SlotsLastWrongFalsely : Prop := slotsLastRow.holds Try.pinned (OpenSpec.ofChange slotsLastWrong)

/-- 'dunnagelaw06.SlotsNew': WHATEVER THE INPUT: true; the input reads as it did. -/
def slotsNewSpec : ChangeSpec := { name := "slotsNew", fn := fun _ => fun
  | [d1, d2, d3] => { results := [.lit (.bool true)], args := [d1, d2, d3] }
  | _ => none }
def slotsNewRow : OpenClaim := { program := "ytkkailggpfmgaaa", sum := "5d61e82a68f501cb27a07c04d510d5483aaec5ca8d59e2f9a8811aed12b51ff9", func := "dunnage/dunnagelaw06.SlotsNew", spec := "slotsNew", inPlace := ["sync/atomic.AddInt64"], unfollowed := true, recurses := true, apart := false }
def SlotsNewSaid : Prop := slotsNewRow.holds Try.pinned (OpenSpec.ofChange slotsNewSpec)

/-- ITS FALSE NEIGHBOUR: 'it returns false'. Refute it at one input. -/
def slotsNewWrong : ChangeSpec := { name := "slotsNew", fn := fun _ => fun
  | [d1, d2, d3] => { results := [.lit (.bool false)], args := [d1, d2, d3] }
  | _ => none }
def SlotsNewWrongFalsely : Prop := slotsNewRow.holds Try.pinned (OpenSpec.ofChange slotsNewWrong)

/-- 'dunnagelaw05.LogActs': WHATEVER THE INPUT: true; the input reads as it did. -/
def logActsSpec : ChangeSpec := { name := "logActs", fn := fun _ => fun
  | [d1, d2, d3, d4] => { results := [.lit (.bool true)], args := [d1, d2, d3, d4] }
  | _ => none }
def logActsRow : OpenClaim := { program := "ytkkailggpfmgaaa", sum := "5d61e82a68f501cb27a07c04d510d5483aaec5ca8d59e2f9a8811aed12b51ff9", func := "dunnage/dunnagelaw05.LogActs", spec := "logActs", inPlace := ["sync/atomic.AddInt64"], apart := false }
def LogActsSaid : Prop := logActsRow.holds Try.pinned (OpenSpec.ofChange logActsSpec)

/-- ITS FALSE NEIGHBOUR: 'it returns false'. Refute it at one input. -/
def logActsWrong : ChangeSpec := { name := "logActs", fn := fun _ => fun
  | [d1, d2, d3, d4] => { results := [.lit (.bool false)], args := [d1, d2, d3, d4] }
  | _ => none }
def LogActsWrongFalsely : Prop := logActsRow.holds Try.pinned (OpenSpec.ofChange logActsWrong)

/-- 'dunnagelaw05.LogClean': WHATEVER THE INPUT: true; the input reads as it did. -/
def logCleanSpec : ChangeSpec := { name := "logClean", fn := fun _ => fun
  | [d] => { results := [.lit (.bool true)], args := [d] }
  | _ => none }
def logCleanRow : OpenClaim := { program := "ytkkailggpfmgaaa", sum := "5d61e82a68f501cb27a07c04d510d5483aaec5ca8d59e2f9a8811aed12b51ff9", func := "dunnage/dunnagelaw05.LogClean", spec := "logClean", inPlace := ["sync/atomic.AddInt64"], apart := false }
def LogCleanSaid : Prop := logCleanRow.holds Try.pinned (OpenSpec.ofChange logCleanSpec)

/-- ITS FALSE NEIGHBOUR: 'it returns false'. Refute it at one input. -/
def logCleanWrong : ChangeSpec := { name := "logClean", fn := fun _ => fun
  | [d] => { results := [.lit (.bool false)], args := [d] }
  | _ => none }
def LogCleanWrongFalsely : Prop := logCleanRow.holds Try.pinned (OpenSpec.ofChange logCleanWrong)

/- THE SECOND FORM. 'bulk': how many values and letters a reading holds, each counted each time it is reached (what is shared counts as often as it is met; a slice's spare places count too). A statement '..UptoSaid' is the law's where the arguments, and the package variables that the reading takes, are together of bulk at most 1048576: NARROWER than '..Said'. Prove '..Said' where nothing that the law and all that it calls make is longer than what came in: it says more and counts as full. Else prove '..UptoSaid'. A law counts once. -/
mutual
def uptoBulk {H : Type} : DataW H → Nat
  | .lit (.string bytes) => bytes.length + 1
  | .lit _ => 1
  | .nil => 1
  | .ptr d => uptoBulk d + 1
  | .slice elems spare => uptoBulkAll elems + uptoBulkAll spare + 1
  | .agg parts => uptoBulkAll parts + 1
  | .iface _ d => uptoBulk d + 1
  | .map entries => uptoBulkEntries entries + 1
  | .held _ => 1
def uptoBulkAll {H : Type} : List (DataW H) → Nat
  | [] => 0
  | d :: r => uptoBulk d + uptoBulkAll r
def uptoBulkEntries {H : Type} : List (Lit × DataW H) → Nat
  | [] => 0
  | x :: r => uptoBulkEntry x + uptoBulkEntries r
def uptoBulkEntry {H : Type} : Lit × DataW H → Nat
  | (.string bytes, d) => bytes.length + uptoBulk d + 1
  | (_, d) => uptoBulk d + 1
 end
def uptoSmall : (H : Type) → List (DataW H) → Bool := fun _ ds => decide (uptoBulkAll ds ≤ 1048576)
def OpenSpec.upto (s : _root_.Go.ChangeSpec) : _root_.Go.OpenSpec := { _root_.Go.OpenSpec.ofChange s with cond := some uptoSmall }

/-- 'dunnagelaw05.LogTorn', WHERE WHAT IT READS IS OF BULK AT MOST 1048576: true; the input reads as it did. -/
def logTornUptoRow : OpenClaim := { program := "ytkkailggpfmgaaa", sum := "5d61e82a68f501cb27a07c04d510d5483aaec5ca8d59e2f9a8811aed12b51ff9", func := "dunnage/dunnagelaw05.LogTorn", spec := "logTorn", inPlace := ["sync/atomic.AddInt64"], apart := false, narrowed := true }
def LogTornUptoSaid : Prop := logTornUptoRow.holds Try.pinned (OpenSpec.upto logTornSpec)

/-- 'dunnagelaw05.LogRooms', WHERE WHAT IT READS IS OF BULK AT MOST 1048576: true; the input reads as it did. -/
def logRoomsUptoRow : OpenClaim := { program := "ytkkailggpfmgaaa", sum := "5d61e82a68f501cb27a07c04d510d5483aaec5ca8d59e2f9a8811aed12b51ff9", func := "dunnage/dunnagelaw05.LogRooms", spec := "logRooms", inPlace := ["sync/atomic.AddInt64"], apart := false, narrowed := true }
def LogRoomsUptoSaid : Prop := logRoomsUptoRow.holds Try.pinned (OpenSpec.upto logRoomsSpec)

/-- 'dunnagelaw05.LogSame', WHERE WHAT IT READS IS OF BULK AT MOST 1048576: true; the input reads as it did. -/
def logSameUptoRow : OpenClaim := { program := "ytkkailggpfmgaaa", sum := "5d61e82a68f501cb27a07c04d510d5483aaec5ca8d59e2f9a8811aed12b51ff9", func := "dunnage/dunnagelaw05.LogSame", spec := "logSame", inPlace := ["sync/atomic.AddInt64"], apart := false, narrowed := true }
def LogSameUptoSaid : Prop := logSameUptoRow.holds Try.pinned (OpenSpec.upto logSameSpec)

/-- 'dunnagelaw06.SlotsActs', WHERE WHAT IT READS IS OF BULK AT MOST 1048576: true; the input reads as it did. -/
def slotsActsUptoRow : OpenClaim := { program := "ytkkailggpfmgaaa", sum := "5d61e82a68f501cb27a07c04d510d5483aaec5ca8d59e2f9a8811aed12b51ff9", func := "dunnage/dunnagelaw06.SlotsActs", spec := "slotsActs", inPlace := ["sync/atomic.AddInt64"], unfollowed := true, recurses := true, apart := false, narrowed := true }
def SlotsActsUptoSaid : Prop := slotsActsUptoRow.holds Try.pinned (OpenSpec.upto slotsActsSpec)

/-- 'dunnagelaw06.SlotsTorn', WHERE WHAT IT READS IS OF BULK AT MOST 1048576: true; the input reads as it did. -/
def slotsTornUptoRow : OpenClaim := { program := "ytkkailggpfmgaaa", sum := "5d61e82a68f501cb27a07c04d510d5483aaec5ca8d59e2f9a8811aed12b51ff9", func := "dunnage/dunnagelaw06.SlotsTorn", spec := "slotsTorn", inPlace := ["sync/atomic.AddInt64"], unfollowed := true, recurses := true, apart := false, narrowed := true }
def SlotsTornUptoSaid : Prop := slotsTornUptoRow.holds Try.pinned (OpenSpec.upto slotsTornSpec)

/-- 'dunnagelaw06.SlotsLast', WHERE WHAT IT READS IS OF BULK AT MOST 1048576: true; the input reads as it did. -/
def slotsLastUptoRow : OpenClaim := { program := "ytkkailggpfmgaaa", sum := "5d61e82a68f501cb27a07c04d510d5483aaec5ca8d59e2f9a8811aed12b51ff9", func := "dunnage/dunnagelaw06.SlotsLast", spec := "slotsLast", inPlace := ["sync/atomic.AddInt64"], unfollowed := true, recurses := true, apart := false, narrowed := true }
def SlotsLastUptoSaid : Prop := slotsLastUptoRow.holds Try.pinned (OpenSpec.upto slotsLastSpec)

/-- 'dunnagelaw06.SlotsNew', WHERE WHAT IT READS IS OF BULK AT MOST 1048576: true; the input reads as it did. -/
def slotsNewUptoRow : OpenClaim := { program := "ytkkailggpfmgaaa", sum := "5d61e82a68f501cb27a07c04d510d5483aaec5ca8d59e2f9a8811aed12b51ff9", func := "dunnage/dunnagelaw06.SlotsNew", spec := "slotsNew", inPlace := ["sync/atomic.AddInt64"], unfollowed := true, recurses := true, apart := false, narrowed := true }
def SlotsNewUptoSaid : Prop := slotsNewUptoRow.holds Try.pinned (OpenSpec.upto slotsNewSpec)

/-- 'dunnagelaw05.LogActs', WHERE WHAT IT READS IS OF BULK AT MOST 1048576: true; the input reads as it did. -/
def logActsUptoRow : OpenClaim := { program := "ytkkailggpfmgaaa", sum := "5d61e82a68f501cb27a07c04d510d5483aaec5ca8d59e2f9a8811aed12b51ff9", func := "dunnage/dunnagelaw05.LogActs", spec := "logActs", inPlace := ["sync/atomic.AddInt64"], apart := false, narrowed := true }
def LogActsUptoSaid : Prop := logActsUptoRow.holds Try.pinned (OpenSpec.upto logActsSpec)

/-- 'dunnagelaw05.LogClean', WHERE WHAT IT READS IS OF BULK AT MOST 1048576: true; the input reads as it did. -/
def logCleanUptoRow : OpenClaim := { program := "ytkkailggpfmgaaa", sum := "5d61e82a68f501cb27a07c04d510d5483aaec5ca8d59e2f9a8811aed12b51ff9", func := "dunnage/dunnagelaw05.LogClean", spec := "logClean", inPlace := ["sync/atomic.AddInt64"], apart := false, narrowed := true }
def LogCleanUptoSaid : Prop := logCleanUptoRow.holds Try.pinned (OpenSpec.upto logCleanSpec)

end Rows
end Go.Proofs.Ytkkailggpfmgaaa

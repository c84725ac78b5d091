/-
  No cell of these rows narrows 'for every input' (looked for: loops, veiled, ifaces, maps, wideKeys, modest, calm, conditions, laid).
  DERIVED. THE GIVEN ROWS OF THIS SEAT. 4 by the template 'for every input the law returns true; each argument reads behind the call as it read before'; 0 by the template 'total and deterministic' (their statements: YtmfbbonppmhabaaTotals.lean).
  GIVEN WITH THE SEED: the statements are not yours to turn. If you find one false, say at which input.
  Laid BY PROGRAM, IN A SANDBOX (cutbox-rows.mjs): the forced cells as the released guide's own fill.sh prints them over the translation b42655f828edd964… (all of the seat's roots in one cut). By AI agents, Wed Nov 11 2026. No macro, syntax, notation, axiom, sorry.
-/
import Derived.Test.YtmfbbonppmhabaaChecked
import GoSem.Claim
import GoSem.ClaimJoined
import GoSem.ClaimMapViews
import Derived.JoinedTies
import Derived.KernelRfl
namespace Go.Proofs.Ytmfbbonppmhabaa
/- THE CELL 'sum', in the pinned program and in every row, IS THE sha256 OF THE DUMP (.gsa) THAT YtmfbbonppmhabaaProg.lean LOADS. Nothing in Lean hashes anything: it is a label: what it is worth is what the hold of that sum in a sandbox is worth. -/
noncomputable def Try.pinned : Pinned := { name := "ytmfbbonppmhabaa", sum := "b42655f828edd964d88ecad760fab0a28f5018ee31f8147d64a40959c1e59d99", checked := Try.checked }
namespace Rows
def none {H : Type} : Left H := { results := [], args := [] }

/-- 'dunnagelaw07.JournalRooms': WHATEVER THE INPUT: true; the input reads as it did. -/
def journalRoomsSpec : ChangeSpec := { name := "journalRooms", fn := fun _ => fun
  | [d] => { results := [.lit (.bool true)], args := [d] }
  | _ => none }
def journalRoomsRow : OpenClaim := { program := "ytmfbbonppmhabaa", sum := "b42655f828edd964d88ecad760fab0a28f5018ee31f8147d64a40959c1e59d99", func := "dunnage/dunnagelaw07.JournalRooms", spec := "journalRooms", inPlace := ["sync/atomic.AddInt64"], unfollowed := true, recurses := true, apart := false }
def JournalRoomsSaid : Prop := journalRoomsRow.holds Try.pinned (OpenSpec.ofChange journalRoomsSpec)

/-- ITS FALSE NEIGHBOUR: 'it returns false'. Refute it at one input. -/
def journalRoomsWrong : ChangeSpec := { name := "journalRooms", fn := fun _ => fun
  | [d] => { results := [.lit (.bool false)], args := [d] }
  | _ => none }
def JournalRoomsWrongFalsely : Prop := journalRoomsRow.holds Try.pinned (OpenSpec.ofChange journalRoomsWrong)

/-- 'dunnagelaw07.JournalActs': WHATEVER THE INPUT: true; the input reads as it did. -/
def journalActsSpec : ChangeSpec := { name := "journalActs", fn := fun _ => fun
  | [d1, d2] => { results := [.lit (.bool true)], args := [d1, d2] }
  | _ => none }
def journalActsRow : OpenClaim := { program := "ytmfbbonppmhabaa", sum := "b42655f828edd964d88ecad760fab0a28f5018ee31f8147d64a40959c1e59d99", func := "dunnage/dunnagelaw07.JournalActs", spec := "journalActs", inPlace := ["sync/atomic.AddInt64"], unfollowed := true, recurses := true, apart := false }
def JournalActsSaid : Prop := journalActsRow.holds Try.pinned (OpenSpec.ofChange journalActsSpec)

/-- ITS FALSE NEIGHBOUR: 'it returns false'. Refute it at one input. -/
def journalActsWrong : ChangeSpec := { name := "journalActs", fn := fun _ => fun
  | [d1, d2] => { results := [.lit (.bool false)], args := [d1, d2] }
  | _ => none }
def JournalActsWrongFalsely : Prop := journalActsRow.holds Try.pinned (OpenSpec.ofChange journalActsWrong)

/-- 'dunnagelaw07.JournalAll': WHATEVER THE INPUT: true; the input reads as it did. -/
def journalAllSpec : ChangeSpec := { name := "journalAll", fn := fun _ => fun
  | [d] => { results := [.lit (.bool true)], args := [d] }
  | _ => none }
def journalAllRow : OpenClaim := { program := "ytmfbbonppmhabaa", sum := "b42655f828edd964d88ecad760fab0a28f5018ee31f8147d64a40959c1e59d99", func := "dunnage/dunnagelaw07.JournalAll", spec := "journalAll", inPlace := ["sync/atomic.AddInt64"], unfollowed := true, recurses := true, apart := false }
def JournalAllSaid : Prop := journalAllRow.holds Try.pinned (OpenSpec.ofChange journalAllSpec)

/-- ITS FALSE NEIGHBOUR: 'it returns false'. Refute it at one input. -/
def journalAllWrong : ChangeSpec := { name := "journalAll", fn := fun _ => fun
  | [d] => { results := [.lit (.bool false)], args := [d] }
  | _ => none }
def JournalAllWrongFalsely : Prop := journalAllRow.holds Try.pinned (OpenSpec.ofChange journalAllWrong)

/-- 'dunnagelaw07.JournalPast': WHATEVER THE INPUT: true; the input reads as it did. -/
def journalPastSpec : ChangeSpec := { name := "journalPast", fn := fun _ => fun
  | [d1, d2, d3] => { results := [.lit (.bool true)], args := [d1, d2, d3] }
  | _ => none }
def journalPastRow : OpenClaim := { program := "ytmfbbonppmhabaa", sum := "b42655f828edd964d88ecad760fab0a28f5018ee31f8147d64a40959c1e59d99", func := "dunnage/dunnagelaw07.JournalPast", spec := "journalPast", inPlace := ["sync/atomic.AddInt64"], unfollowed := true, recurses := true, apart := false }
def JournalPastSaid : Prop := journalPastRow.holds Try.pinned (OpenSpec.ofChange journalPastSpec)

/-- ITS FALSE NEIGHBOUR: 'it returns false'. Refute it at one input. -/
def journalPastWrong : ChangeSpec := { name := "journalPast", fn := fun _ => fun
  | [d1, d2, d3] => { results := [.lit (.bool false)], args := [d1, d2, d3] }
  | _ => none }
def JournalPastWrongFalsely : Prop := journalPastRow.holds Try.pinned (OpenSpec.ofChange journalPastWrong)

/- THE SECOND FORM. 'bulk': how many values and letters a reading holds, each counted each time it is reached (what is shared counts as often as it is met; a slice's spare places count too). A statement '..UptoSaid' is the law's where the arguments, and the package variables that the reading takes, are together of bulk at most 1048576: NARROWER than '..Said'. Prove '..Said' where nothing that the law and all that it calls make is longer than what came in: it says more and counts as full. Else prove '..UptoSaid'. A law counts once. -/
mutual
def uptoBulk {H : Type} : DataW H → Nat
  | .lit (.string bytes) => bytes.length + 1
  | .lit _ => 1
  | .nil => 1
  | .ptr d => uptoBulk d + 1
  | .slice elems spare => uptoBulkAll elems + uptoBulkAll spare + 1
  | .agg parts => uptoBulkAll parts + 1
  | .iface _ d => uptoBulk d + 1
  | .map entries => uptoBulkEntries entries + 1
  | .held _ => 1
def uptoBulkAll {H : Type} : List (DataW H) → Nat
  | [] => 0
  | d :: r => uptoBulk d + uptoBulkAll r
def uptoBulkEntries {H : Type} : List (Lit × DataW H) → Nat
  | [] => 0
  | x :: r => uptoBulkEntry x + uptoBulkEntries r
def uptoBulkEntry {H : Type} : Lit × DataW H → Nat
  | (.string bytes, d) => bytes.length + uptoBulk d + 1
  | (_, d) => uptoBulk d + 1
 end
def uptoSmall : (H : Type) → List (DataW H) → Bool := fun _ ds => decide (uptoBulkAll ds ≤ 1048576)
def OpenSpec.upto (s : _root_.Go.ChangeSpec) : _root_.Go.OpenSpec := { _root_.Go.OpenSpec.ofChange s with cond := some uptoSmall }

/-- 'dunnagelaw07.JournalRooms', WHERE WHAT IT READS IS OF BULK AT MOST 1048576: true; the input reads as it did. -/
def journalRoomsUptoRow : OpenClaim := { program := "ytmfbbonppmhabaa", sum := "b42655f828edd964d88ecad760fab0a28f5018ee31f8147d64a40959c1e59d99", func := "dunnage/dunnagelaw07.JournalRooms", spec := "journalRooms", inPlace := ["sync/atomic.AddInt64"], unfollowed := true, recurses := true, apart := false, narrowed := true }
def JournalRoomsUptoSaid : Prop := journalRoomsUptoRow.holds Try.pinned (OpenSpec.upto journalRoomsSpec)

/-- 'dunnagelaw07.JournalActs', WHERE WHAT IT READS IS OF BULK AT MOST 1048576: true; the input reads as it did. -/
def journalActsUptoRow : OpenClaim := { program := "ytmfbbonppmhabaa", sum := "b42655f828edd964d88ecad760fab0a28f5018ee31f8147d64a40959c1e59d99", func := "dunnage/dunnagelaw07.JournalActs", spec := "journalActs", inPlace := ["sync/atomic.AddInt64"], unfollowed := true, recurses := true, apart := false, narrowed := true }
def JournalActsUptoSaid : Prop := journalActsUptoRow.holds Try.pinned (OpenSpec.upto journalActsSpec)

/-- 'dunnagelaw07.JournalAll', WHERE WHAT IT READS IS OF BULK AT MOST 1048576: true; the input reads as it did. -/
def journalAllUptoRow : OpenClaim := { program := "ytmfbbonppmhabaa", sum := "b42655f828edd964d88ecad760fab0a28f5018ee31f8147d64a40959c1e59d99", func := "dunnage/dunnagelaw07.JournalAll", spec := "journalAll", inPlace := ["sync/atomic.AddInt64"], unfollowed := true, recurses := true, apart := false, narrowed := true }
def JournalAllUptoSaid : Prop := journalAllUptoRow.holds Try.pinned (OpenSpec.upto journalAllSpec)

/-- 'dunnagelaw07.JournalPast', WHERE WHAT IT READS IS OF BULK AT MOST 1048576: true; the input reads as it did. -/
def journalPastUptoRow : OpenClaim := { program := "ytmfbbonppmhabaa", sum := "b42655f828edd964d88ecad760fab0a28f5018ee31f8147d64a40959c1e59d99", func := "dunnage/dunnagelaw07.JournalPast", spec := "journalPast", inPlace := ["sync/atomic.AddInt64"], unfollowed := true, recurses := true, apart := false, narrowed := true }
def JournalPastUptoSaid : Prop := journalPastUptoRow.holds Try.pinned (OpenSpec.upto journalPastSpec)

end Rows
end Go.Proofs.Ytmfbbonppmhabaa

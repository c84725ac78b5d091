/-
  DERIVED. GIVEN WITH THE SEED: THE CARDS: each row of YtjfbmgndekfglaaDoorRows.lean that lists a variable, with what it lists TIED to the program's text (the seventh form; the later family's looks); each row that meets fmt, with fmt's text TOLD by the authors' own Lean function (tested against real Go, not proved from fmt's source: count such statements apart). THE CARD IS WHAT COUNTS. Prove the row's statement (the work); the ties are given (YtjfbmgndekfglaaDoorTie.lean); close each card by the builder's one call (the guide's Derived/Test/ToyasCard.lean, 'card_holds'). Laid BY PROGRAM, IN A SANDBOX (cutbox-door.mjs). By AI agents, Wed Nov 11 2026. No macro, syntax, notation, axiom, sorry.
-/
import Derived.Test.YtjfbmgndekfglaaDoorRows
import GoSem.ClaimSeven
namespace Go.Proofs.YtjfbmgndekfglaaDoor
namespace Rows

/-- THE TIED CARD OF 'dunnagelaw27.DialOf'. -/
def dialOfCard : Claim7 := { stood := { row := dialOfRow, standIns := [], harness := (true, "69f8436d660978811fdee953c0838a6668b529342b46e0199f0183f836c31461"), looks := true }, kinds := [], alts := [], laidByText := true, laidKinds := [.data, .data, .data, .sentinel, .sentinel], laidTests := true, laidLooks := .later }
def DialOfCardSaid : Prop := Claim7.holds Tryd.pinned (.plain (OpenSpec.ofChange dialOfSpec)) dialOfCard

/-- THE TIED CARD OF 'dunnagelaw27.DialCounts'. -/
def dialCountsCard : Claim7 := { stood := { row := dialCountsRow, standIns := [], harness := (true, "69f8436d660978811fdee953c0838a6668b529342b46e0199f0183f836c31461"), looks := true }, kinds := [], alts := [], laidByText := true, laidKinds := [.data, .data, .data, .sentinel, .sentinel], laidTests := true, laidLooks := .later }
def DialCountsCardSaid : Prop := Claim7.holds Tryd.pinned (.plain (OpenSpec.ofChange dialCountsSpec)) dialCountsCard

/-- THE SECOND FORM's CARD OF 'dunnagelaw27.DialOf'. -/
def dialOfUptoCard : Claim7 := { stood := { row := dialOfUptoRow, standIns := [], harness := (true, "69f8436d660978811fdee953c0838a6668b529342b46e0199f0183f836c31461"), looks := true }, kinds := [], alts := [], laidByText := true, laidKinds := [.data, .data, .data, .sentinel, .sentinel], laidTests := true, laidLooks := .later }
def DialOfUptoCardSaid : Prop := Claim7.holds Tryd.pinned (.plain (OpenSpec.upto dialOfSpec)) dialOfUptoCard

/-- THE SECOND FORM's CARD OF 'dunnagelaw27.DialCounts'. -/
def dialCountsUptoCard : Claim7 := { stood := { row := dialCountsUptoRow, standIns := [], harness := (true, "69f8436d660978811fdee953c0838a6668b529342b46e0199f0183f836c31461"), looks := true }, kinds := [], alts := [], laidByText := true, laidKinds := [.data, .data, .data, .sentinel, .sentinel], laidTests := true, laidLooks := .later }
def DialCountsUptoCardSaid : Prop := Claim7.holds Tryd.pinned (.plain (OpenSpec.upto dialCountsSpec)) dialCountsUptoCard
end Rows
end Go.Proofs.YtjfbmgndekfglaaDoor

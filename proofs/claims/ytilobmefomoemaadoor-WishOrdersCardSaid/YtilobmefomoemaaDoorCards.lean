/-
  DERIVED. GIVEN WITH THE SEED: THE CARDS: each row of YtilobmefomoemaaDoorRows.lean that lists a variable, with what it lists TIED to the program's text (the seventh form; the later family's looks); each row that meets fmt, with fmt's text TOLD by the authors' own Lean function (tested against real Go, not proved from fmt's source: count such statements apart). THE CARD IS WHAT COUNTS. Prove the row's statement (the work); the ties are given (YtilobmefomoemaaDoorTie.lean); close each card by the builder's one call (the guide's Derived/Test/ToyasCard.lean, 'card_holds'). Laid BY PROGRAM, IN A SANDBOX (cutbox-door.mjs). By AI agents, Wed Nov 11 2026. No macro, syntax, notation, axiom, sorry.
-/
import Derived.Test.YtilobmefomoemaaDoorRows
import GoSem.ClaimSeven
namespace Go.Proofs.YtilobmefomoemaaDoor
namespace Rows

/-- THE TIED CARD OF 'dunnagelaw19.WishAlike'. -/
def wishAlikeCard : Claim7 := { stood := { row := wishAlikeRow, standIns := [], harness := (true, "bb7589c98f286b2311d8ea8cb12030268d0787ba7d9babbb2e11939b788c1930"), looks := false }, kinds := [], alts := [], laidByText := true, laidKinds := [.data, .data], laidTests := true, laidLooks := .later }
def WishAlikeCardSaid : Prop := Claim7.holds Tryd.pinned (.plain (OpenSpec.ofChange wishAlikeSpec)) wishAlikeCard

/-- THE TIED CARD OF 'dunnagelaw19.WishSame'. -/
def wishSameCard : Claim7 := { stood := { row := wishSameRow, standIns := [], harness := (true, "bb7589c98f286b2311d8ea8cb12030268d0787ba7d9babbb2e11939b788c1930"), looks := false }, kinds := [], alts := [], laidByText := true, laidKinds := [.data, .data], laidTests := true, laidLooks := .later }
def WishSameCardSaid : Prop := Claim7.holds Tryd.pinned (.plain (OpenSpec.ofChange wishSameSpec)) wishSameCard

/-- THE TIED CARD OF 'dunnagelaw19.WishGangs'. -/
def wishGangsCard : Claim7 := { stood := { row := wishGangsRow, standIns := [], harness := (true, "bb7589c98f286b2311d8ea8cb12030268d0787ba7d9babbb2e11939b788c1930"), looks := false }, kinds := [], alts := [], laidByText := true, laidKinds := [.data, .data], laidTests := true, laidLooks := .later }
def WishGangsCardSaid : Prop := Claim7.holds Tryd.pinned (.plain (OpenSpec.ofChange wishGangsSpec)) wishGangsCard

/-- THE TIED CARD OF 'dunnagelaw19.WishTells'. -/
def wishTellsCard : Claim7 := { stood := { row := wishTellsRow, standIns := [], harness := (true, "bb7589c98f286b2311d8ea8cb12030268d0787ba7d9babbb2e11939b788c1930"), looks := false }, kinds := [], alts := [], laidByText := true, laidKinds := [.data, .data], laidTests := true, laidLooks := .later }
def WishTellsCardSaid : Prop := Claim7.holds Tryd.pinned (.plain (OpenSpec.ofChange wishTellsSpec)) wishTellsCard

/-- THE TIED CARD OF 'dunnagelaw19.WishAll'. -/
def wishAllCard : Claim7 := { stood := { row := wishAllRow, standIns := [], harness := (true, "bb7589c98f286b2311d8ea8cb12030268d0787ba7d9babbb2e11939b788c1930"), looks := false }, kinds := [], alts := [], laidByText := true, laidKinds := [.data, .data], laidTests := true, laidLooks := .later }
def WishAllCardSaid : Prop := Claim7.holds Tryd.pinned (.plain (OpenSpec.ofChange wishAllSpec)) wishAllCard

/-- THE TIED CARD OF 'dunnagelaw19.WishOrders'. -/
def wishOrdersCard : Claim7 := { stood := { row := wishOrdersRow, standIns := [], harness := (true, "bb7589c98f286b2311d8ea8cb12030268d0787ba7d9babbb2e11939b788c1930"), looks := false }, kinds := [], alts := [], laidByText := true, laidKinds := [.data, .data], laidTests := true, laidLooks := .later }
def WishOrdersCardSaid : Prop := Claim7.holds Tryd.pinned (.plain (OpenSpec.ofChange wishOrdersSpec)) wishOrdersCard

/-- THE SECOND FORM's CARD OF 'dunnagelaw19.WishAlike'. -/
def wishAlikeUptoCard : Claim7 := { stood := { row := wishAlikeUptoRow, standIns := [], harness := (true, "bb7589c98f286b2311d8ea8cb12030268d0787ba7d9babbb2e11939b788c1930"), looks := false }, kinds := [], alts := [], laidByText := true, laidKinds := [.data, .data], laidTests := true, laidLooks := .later }
def WishAlikeUptoCardSaid : Prop := Claim7.holds Tryd.pinned (.plain (OpenSpec.upto wishAlikeSpec)) wishAlikeUptoCard

/-- THE SECOND FORM's CARD OF 'dunnagelaw19.WishSame'. -/
def wishSameUptoCard : Claim7 := { stood := { row := wishSameUptoRow, standIns := [], harness := (true, "bb7589c98f286b2311d8ea8cb12030268d0787ba7d9babbb2e11939b788c1930"), looks := false }, kinds := [], alts := [], laidByText := true, laidKinds := [.data, .data], laidTests := true, laidLooks := .later }
def WishSameUptoCardSaid : Prop := Claim7.holds Tryd.pinned (.plain (OpenSpec.upto wishSameSpec)) wishSameUptoCard

/-- THE SECOND FORM's CARD OF 'dunnagelaw19.WishGangs'. -/
def wishGangsUptoCard : Claim7 := { stood := { row := wishGangsUptoRow, standIns := [], harness := (true, "bb7589c98f286b2311d8ea8cb12030268d0787ba7d9babbb2e11939b788c1930"), looks := false }, kinds := [], alts := [], laidByText := true, laidKinds := [.data, .data], laidTests := true, laidLooks := .later }
def WishGangsUptoCardSaid : Prop := Claim7.holds Tryd.pinned (.plain (OpenSpec.upto wishGangsSpec)) wishGangsUptoCard

/-- THE SECOND FORM's CARD OF 'dunnagelaw19.WishTells'. -/
def wishTellsUptoCard : Claim7 := { stood := { row := wishTellsUptoRow, standIns := [], harness := (true, "bb7589c98f286b2311d8ea8cb12030268d0787ba7d9babbb2e11939b788c1930"), looks := false }, kinds := [], alts := [], laidByText := true, laidKinds := [.data, .data], laidTests := true, laidLooks := .later }
def WishTellsUptoCardSaid : Prop := Claim7.holds Tryd.pinned (.plain (OpenSpec.upto wishTellsSpec)) wishTellsUptoCard

/-- THE SECOND FORM's CARD OF 'dunnagelaw19.WishAll'. -/
def wishAllUptoCard : Claim7 := { stood := { row := wishAllUptoRow, standIns := [], harness := (true, "bb7589c98f286b2311d8ea8cb12030268d0787ba7d9babbb2e11939b788c1930"), looks := false }, kinds := [], alts := [], laidByText := true, laidKinds := [.data, .data], laidTests := true, laidLooks := .later }
def WishAllUptoCardSaid : Prop := Claim7.holds Tryd.pinned (.plain (OpenSpec.upto wishAllSpec)) wishAllUptoCard

/-- THE SECOND FORM's CARD OF 'dunnagelaw19.WishOrders'. -/
def wishOrdersUptoCard : Claim7 := { stood := { row := wishOrdersUptoRow, standIns := [], harness := (true, "bb7589c98f286b2311d8ea8cb12030268d0787ba7d9babbb2e11939b788c1930"), looks := false }, kinds := [], alts := [], laidByText := true, laidKinds := [.data, .data], laidTests := true, laidLooks := .later }
def WishOrdersUptoCardSaid : Prop := Claim7.holds Tryd.pinned (.plain (OpenSpec.upto wishOrdersSpec)) wishOrdersUptoCard
end Rows
end Go.Proofs.YtilobmefomoemaaDoor

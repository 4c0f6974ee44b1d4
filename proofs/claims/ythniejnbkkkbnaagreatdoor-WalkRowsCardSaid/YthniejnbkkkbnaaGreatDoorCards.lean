/-
  DERIVED. GIVEN WITH THE SEED: THE CARDS: each row of YthniejnbkkkbnaaGreatDoorRows.lean that lists a variable, with what it lists TIED to the program's text (the seventh form; the later family's looks); each row that meets fmt, with fmt's text TOLD by the authors' own Lean function (tested against real Go, not proved from fmt's source: count such statements apart). THE CARD IS WHAT COUNTS. Prove the row's statement (the work); the ties are given (YthniejnbkkkbnaaGreatDoorTie.lean); close each card by the builder's one call (the guide's Derived/Test/ToyasCard.lean, 'card_holds'). Laid BY PROGRAM, IN A SANDBOX (cutbox-door.mjs). By AI agents, Wed Nov 11 2026. No macro, syntax, notation, axiom, sorry.
-/
import Derived.Test.YthniejnbkkkbnaaGreatDoorRows
import GoSem.ClaimSeven
namespace Go.Proofs.YthniejnbkkkbnaaGreatDoor
namespace Rows

/-- THE TIED CARD OF 'truantlaw07.WalkRows'. -/
def walkRowsCard : Claim7 := { stood := { row := walkRowsRow, standIns := [], harness := (true, "1ca599c35a70a8ffd83ccd0fddaa56d7fc3f9cb22c1e074638207d92f071bd96"), looks := true }, kinds := [], alts := [], laidByText := true, laidKinds := [.data, .data, .data, .data, .sentinel, .sentinel, .pinned], laidTests := true, laidLooks := .later }
def WalkRowsCardSaid : Prop := Claim7.holds Tryz.pinned (.plain (OpenSpec.ofChange walkRowsSpec)) walkRowsCard

/-- THE TIED CARD OF 'truantlaw28.MatchKinds'. -/
def matchKindsCard : Claim7 := { stood := { row := matchKindsRow, standIns := [], harness := (true, "1ca599c35a70a8ffd83ccd0fddaa56d7fc3f9cb22c1e074638207d92f071bd96"), looks := true }, kinds := [], alts := [], laidByText := true, laidKinds := [.data, .data, .data, .data, .sentinel, .sentinel, .pinned], laidTests := true, laidLooks := .later }
def MatchKindsCardSaid : Prop := Claim7.holds Tryz.pinned (.plain (OpenSpec.ofChange matchKindsSpec)) matchKindsCard

/-- THE TIED CARD OF 'truantlaw28.MatchTurned'. -/
def matchTurnedCard : Claim7 := { stood := { row := matchTurnedRow, standIns := [], harness := (true, "1ca599c35a70a8ffd83ccd0fddaa56d7fc3f9cb22c1e074638207d92f071bd96"), looks := true }, kinds := [], alts := [], laidByText := true, laidKinds := [.data, .data, .data, .data, .sentinel, .sentinel, .pinned], laidTests := true, laidLooks := .later }
def MatchTurnedCardSaid : Prop := Claim7.holds Tryz.pinned (.plain (OpenSpec.ofChange matchTurnedSpec)) matchTurnedCard

/-- THE SECOND FORM's CARD OF 'truantlaw07.WalkRows'. -/
def walkRowsUptoCard : Claim7 := { stood := { row := walkRowsUptoRow, standIns := [], harness := (true, "1ca599c35a70a8ffd83ccd0fddaa56d7fc3f9cb22c1e074638207d92f071bd96"), looks := true }, kinds := [], alts := [], laidByText := true, laidKinds := [.data, .data, .data, .data, .sentinel, .sentinel, .pinned], laidTests := true, laidLooks := .later }
def WalkRowsUptoCardSaid : Prop := Claim7.holds Tryz.pinned (.plain (OpenSpec.upto walkRowsSpec)) walkRowsUptoCard

/-- THE SECOND FORM's CARD OF 'truantlaw28.MatchKinds'. -/
def matchKindsUptoCard : Claim7 := { stood := { row := matchKindsUptoRow, standIns := [], harness := (true, "1ca599c35a70a8ffd83ccd0fddaa56d7fc3f9cb22c1e074638207d92f071bd96"), looks := true }, kinds := [], alts := [], laidByText := true, laidKinds := [.data, .data, .data, .data, .sentinel, .sentinel, .pinned], laidTests := true, laidLooks := .later }
def MatchKindsUptoCardSaid : Prop := Claim7.holds Tryz.pinned (.plain (OpenSpec.upto matchKindsSpec)) matchKindsUptoCard

/-- THE SECOND FORM's CARD OF 'truantlaw28.MatchTurned'. -/
def matchTurnedUptoCard : Claim7 := { stood := { row := matchTurnedUptoRow, standIns := [], harness := (true, "1ca599c35a70a8ffd83ccd0fddaa56d7fc3f9cb22c1e074638207d92f071bd96"), looks := true }, kinds := [], alts := [], laidByText := true, laidKinds := [.data, .data, .data, .data, .sentinel, .sentinel, .pinned], laidTests := true, laidLooks := .later }
def MatchTurnedUptoCardSaid : Prop := Claim7.holds Tryz.pinned (.plain (OpenSpec.upto matchTurnedSpec)) matchTurnedUptoCard
end Rows
end Go.Proofs.YthniejnbkkkbnaaGreatDoor

/-
  DERIVED. GIVEN WITH THE SEED: THE CARDS: each row of YtkdofgbjebpmoaaGreatDoorRows.lean that lists a variable, with what it lists TIED to the program's text (the seventh form; the later family's looks); each row that meets fmt, with fmt's text TOLD by the authors' own Lean function (tested against real Go, not proved from fmt's source: count such statements apart). THE CARD IS WHAT COUNTS. Prove the row's statement (the work); the ties are given (YtkdofgbjebpmoaaGreatDoorTie.lean); close each card by the builder's one call (the guide's Derived/Test/ToyasCard.lean, 'card_holds'). Laid BY PROGRAM, IN A SANDBOX (cutbox-door.mjs). By AI agents, Wed Nov 11 2026. No macro, syntax, notation, axiom, sorry.
-/
import Derived.Test.YtkdofgbjebpmoaaGreatDoorRows
import GoSem.ClaimSeven
namespace Go.Proofs.YtkdofgbjebpmoaaGreatDoor
namespace Rows

/-- THE TIED CARD OF 'mahoutlaw26.ConsoleParses'. -/
def consoleParsesCard : Claim7 := { stood := { row := consoleParsesRow, standIns := [], harness := (true, "8c78122dda395c47fea76f155039a3d680f1929de575a49bc5c77006d8b11158"), looks := true }, kinds := [], alts := [], laidByText := true, laidKinds := [.data, .data, .data, .data, .handle, .sentinel, .sentinel, .data, .pinned], laidTests := true, laidLooks := .later }
def ConsoleParsesCardSaid : Prop := Claim7.holds Tryz.pinned (.plain (OpenSpec.ofChange consoleParsesSpec)) consoleParsesCard

/-- THE TIED CARD OF 'mahoutlaw26.ConsoleLines'. -/
def consoleLinesCard : Claim7 := { stood := { row := consoleLinesRow, standIns := [], harness := (true, "8c78122dda395c47fea76f155039a3d680f1929de575a49bc5c77006d8b11158"), looks := true }, kinds := [], alts := [], laidByText := true, laidKinds := [.data, .data, .data, .data, .handle, .sentinel, .sentinel, .data, .pinned], laidTests := true, laidLooks := .later }
def ConsoleLinesCardSaid : Prop := Claim7.holds Tryz.pinned (.plain (OpenSpec.ofChange consoleLinesSpec)) consoleLinesCard

/-- THE SECOND FORM's CARD OF 'mahoutlaw26.ConsoleParses'. -/
def consoleParsesUptoCard : Claim7 := { stood := { row := consoleParsesUptoRow, standIns := [], harness := (true, "8c78122dda395c47fea76f155039a3d680f1929de575a49bc5c77006d8b11158"), looks := true }, kinds := [], alts := [], laidByText := true, laidKinds := [.data, .data, .data, .data, .handle, .sentinel, .sentinel, .data, .pinned], laidTests := true, laidLooks := .later }
def ConsoleParsesUptoCardSaid : Prop := Claim7.holds Tryz.pinned (.plain (OpenSpec.upto consoleParsesSpec)) consoleParsesUptoCard

/-- THE SECOND FORM's CARD OF 'mahoutlaw26.ConsoleLines'. -/
def consoleLinesUptoCard : Claim7 := { stood := { row := consoleLinesUptoRow, standIns := [], harness := (true, "8c78122dda395c47fea76f155039a3d680f1929de575a49bc5c77006d8b11158"), looks := true }, kinds := [], alts := [], laidByText := true, laidKinds := [.data, .data, .data, .data, .handle, .sentinel, .sentinel, .data, .pinned], laidTests := true, laidLooks := .later }
def ConsoleLinesUptoCardSaid : Prop := Claim7.holds Tryz.pinned (.plain (OpenSpec.upto consoleLinesSpec)) consoleLinesUptoCard
end Rows
end Go.Proofs.YtkdofgbjebpmoaaGreatDoor

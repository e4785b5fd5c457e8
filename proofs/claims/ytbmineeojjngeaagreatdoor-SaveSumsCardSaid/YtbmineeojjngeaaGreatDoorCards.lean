/-
  DERIVED. GIVEN WITH THE SEED: THE CARDS: each row of YtbmineeojjngeaaGreatDoorRows.lean that lists a variable, with what it lists TIED to the program's text (the seventh form; the later family's looks); each row that meets fmt, with fmt's text TOLD by the authors' own Lean function (tested against real Go, not proved from fmt's source: count such statements apart). THE CARD IS WHAT COUNTS. Prove the row's statement (the work); the ties are given (YtbmineeojjngeaaGreatDoorTie.lean); close each card by the builder's one call (the guide's Derived/Test/ToyasCard.lean, 'card_holds'). Laid BY PROGRAM, IN A SANDBOX (cutbox-door.mjs). By AI agents, Wed Nov 11 2026. No macro, syntax, notation, axiom, sorry.
-/
import Derived.Test.YtbmineeojjngeaaGreatDoorRows
import GoSem.ClaimSeven
namespace Go.Proofs.YtbmineeojjngeaaGreatDoor
namespace Rows

/-- THE TIED CARD OF 'tenorlaw26.SaveSums'. -/
def saveSumsCard : Claim7 := { stood := { row := saveSumsRow, standIns := [], harness := (true, "94fbb5ff83ba07f87aa86ef0ee6190c86e4a6bc9bd837264dc336aa6acf47603"), looks := true }, kinds := [], alts := [], laidByText := true, laidKinds := [.data, .data, .widerDeep, .widerDeep, .data, .data, .data, .data, .data, .data, .sentinel, .sentinel, .widerDeep, .pinned, .pinned, .pinned], laidTests := true, laidLooks := .later }
def SaveSumsCardSaid : Prop := Claim7.holds Tryz.pinned (.plain (OpenSpec.ofChange saveSumsSpec)) saveSumsCard

/-- THE SECOND FORM's CARD OF 'tenorlaw26.SaveSums'. -/
def saveSumsUptoCard : Claim7 := { stood := { row := saveSumsUptoRow, standIns := [], harness := (true, "94fbb5ff83ba07f87aa86ef0ee6190c86e4a6bc9bd837264dc336aa6acf47603"), looks := true }, kinds := [], alts := [], laidByText := true, laidKinds := [.data, .data, .widerDeep, .widerDeep, .data, .data, .data, .data, .data, .data, .sentinel, .sentinel, .widerDeep, .pinned, .pinned, .pinned], laidTests := true, laidLooks := .later }
def SaveSumsUptoCardSaid : Prop := Claim7.holds Tryz.pinned (.plain (OpenSpec.upto saveSumsSpec)) saveSumsUptoCard
end Rows
end Go.Proofs.YtbmineeojjngeaaGreatDoor

/-
  DERIVED. GIVEN WITH THE SEED: THE CARDS: each row of YtafhodampbfbkaaDoorRows.lean that lists a variable, with what it lists TIED to the program's text (the seventh form; the later family's looks); each row that meets fmt, with fmt's text TOLD by the authors' own Lean function (tested against real Go, not proved from fmt's source: count such statements apart). THE CARD IS WHAT COUNTS. Prove the row's statement (the work); the ties are given (YtafhodampbfbkaaDoorTie.lean); close each card by the builder's one call (the guide's Derived/Test/ToyasCard.lean, 'card_holds'). Laid BY PROGRAM, IN A SANDBOX (cutbox-door.mjs). By AI agents, Wed Nov 11 2026. No macro, syntax, notation, axiom, sorry.
-/
import Derived.Test.YtafhodampbfbkaaDoorRows
import GoSem.ClaimSeven
namespace Go.Proofs.YtafhodampbfbkaaDoor
namespace Rows

/-- THE TIED CARD OF 'cupellaw25.EditLines'. -/
def editLinesCard : Claim7 := { stood := { row := editLinesRow, standIns := [], harness := (true, "3083451e48cdab840c93048db28ea10ed16f5df789f4a569511734df695a7d85"), looks := false }, kinds := [], alts := [], laidByText := true, laidKinds := [.data, .pinned], laidTests := true, laidLooks := .later }
def EditLinesCardSaid : Prop := Claim7.holds Tryd.pinned (.plain (OpenSpec.ofChange editLinesSpec)) editLinesCard

/-- THE SECOND FORM's CARD OF 'cupellaw25.EditLines'. -/
def editLinesUptoCard : Claim7 := { stood := { row := editLinesUptoRow, standIns := [], harness := (true, "3083451e48cdab840c93048db28ea10ed16f5df789f4a569511734df695a7d85"), looks := false }, kinds := [], alts := [], laidByText := true, laidKinds := [.data, .pinned], laidTests := true, laidLooks := .later }
def EditLinesUptoCardSaid : Prop := Claim7.holds Tryd.pinned (.plain (OpenSpec.upto editLinesSpec)) editLinesUptoCard
end Rows
end Go.Proofs.YtafhodampbfbkaaDoor

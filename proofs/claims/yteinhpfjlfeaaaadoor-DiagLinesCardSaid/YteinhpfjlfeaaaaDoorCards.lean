/-
  DERIVED. GIVEN WITH THE SEED: THE CARDS: each row of YteinhpfjlfeaaaaDoorRows.lean that lists a variable, with what it lists TIED to the program's text (the seventh form; the later family's looks); each row that meets fmt, with fmt's text TOLD by the authors' own Lean function (tested against real Go, not proved from fmt's source: count such statements apart). THE CARD IS WHAT COUNTS. Prove the row's statement (the work); the ties are given (YteinhpfjlfeaaaaDoorTie.lean); close each card by the builder's one call (the guide's Derived/Test/ToyasCard.lean, 'card_holds'). Laid BY PROGRAM, IN A SANDBOX (cutbox-door.mjs). By AI agents, Wed Nov 11 2026. No macro, syntax, notation, axiom, sorry.
-/
import Derived.Test.YteinhpfjlfeaaaaDoorRows
import GoSem.ClaimSeven
namespace Go.Proofs.YteinhpfjlfeaaaaDoor
namespace Rows

/-- THE TIED CARD OF 'cupellaw19.DiagSays'. -/
def diagSaysCard : Claim7 := { stood := { row := diagSaysRow, standIns := [], harness := (true, "81f1227cc17eca488a119313fe282aebb32832c5e3c62c04411da36498b7aeb5"), looks := false }, kinds := [], alts := [], laidByText := true, laidKinds := [.data, .data, .data], laidTests := true, laidLooks := .later }
def DiagSaysCardSaid : Prop := Claim7.holds Tryd.pinned (.plain (OpenSpec.ofChange diagSaysSpec)) diagSaysCard

/-- THE TIED CARD OF 'cupellaw19.DiagKnown'. -/
def diagKnownCard : Claim7 := { stood := { row := diagKnownRow, standIns := [], harness := (true, "81f1227cc17eca488a119313fe282aebb32832c5e3c62c04411da36498b7aeb5"), looks := false }, kinds := [], alts := [], laidByText := true, laidKinds := [.data, .data, .data], laidTests := true, laidLooks := .later }
def DiagKnownCardSaid : Prop := Claim7.holds Tryd.pinned (.plain (OpenSpec.ofChange diagKnownSpec)) diagKnownCard

/-- THE TIED CARD OF 'cupellaw19.DiagPlaces'. -/
def diagPlacesCard : Claim7 := { stood := { row := diagPlacesRow, standIns := [], harness := (true, "81f1227cc17eca488a119313fe282aebb32832c5e3c62c04411da36498b7aeb5"), looks := false }, kinds := [], alts := [], laidByText := true, laidKinds := [.data, .data, .data], laidTests := true, laidLooks := .later }
def DiagPlacesCardSaid : Prop := Claim7.holds Tryd.pinned (.plain (OpenSpec.ofChange diagPlacesSpec)) diagPlacesCard

/-- THE TIED CARD OF 'cupellaw19.DiagOrder'. -/
def diagOrderCard : Claim7 := { stood := { row := diagOrderRow, standIns := [], harness := (true, "81f1227cc17eca488a119313fe282aebb32832c5e3c62c04411da36498b7aeb5"), looks := false }, kinds := [], alts := [], laidByText := true, laidKinds := [.data, .data, .data], laidTests := true, laidLooks := .later }
def DiagOrderCardSaid : Prop := Claim7.holds Tryd.pinned (.plain (OpenSpec.ofChange diagOrderSpec)) diagOrderCard

/-- THE TIED CARD OF 'cupellaw19.DiagLines'. -/
def diagLinesCard : Claim7 := { stood := { row := diagLinesRow, standIns := [], harness := (true, "81f1227cc17eca488a119313fe282aebb32832c5e3c62c04411da36498b7aeb5"), looks := false }, kinds := [], alts := [], laidByText := true, laidKinds := [.data, .data, .data], laidTests := true, laidLooks := .later }
def DiagLinesCardSaid : Prop := Claim7.holds Tryd.pinned (.plain (OpenSpec.ofChange diagLinesSpec)) diagLinesCard

/-- THE SECOND FORM's CARD OF 'cupellaw19.DiagSays'. -/
def diagSaysUptoCard : Claim7 := { stood := { row := diagSaysUptoRow, standIns := [], harness := (true, "81f1227cc17eca488a119313fe282aebb32832c5e3c62c04411da36498b7aeb5"), looks := false }, kinds := [], alts := [], laidByText := true, laidKinds := [.data, .data, .data], laidTests := true, laidLooks := .later }
def DiagSaysUptoCardSaid : Prop := Claim7.holds Tryd.pinned (.plain (OpenSpec.upto diagSaysSpec)) diagSaysUptoCard

/-- THE SECOND FORM's CARD OF 'cupellaw19.DiagKnown'. -/
def diagKnownUptoCard : Claim7 := { stood := { row := diagKnownUptoRow, standIns := [], harness := (true, "81f1227cc17eca488a119313fe282aebb32832c5e3c62c04411da36498b7aeb5"), looks := false }, kinds := [], alts := [], laidByText := true, laidKinds := [.data, .data, .data], laidTests := true, laidLooks := .later }
def DiagKnownUptoCardSaid : Prop := Claim7.holds Tryd.pinned (.plain (OpenSpec.upto diagKnownSpec)) diagKnownUptoCard

/-- THE SECOND FORM's CARD OF 'cupellaw19.DiagPlaces'. -/
def diagPlacesUptoCard : Claim7 := { stood := { row := diagPlacesUptoRow, standIns := [], harness := (true, "81f1227cc17eca488a119313fe282aebb32832c5e3c62c04411da36498b7aeb5"), looks := false }, kinds := [], alts := [], laidByText := true, laidKinds := [.data, .data, .data], laidTests := true, laidLooks := .later }
def DiagPlacesUptoCardSaid : Prop := Claim7.holds Tryd.pinned (.plain (OpenSpec.upto diagPlacesSpec)) diagPlacesUptoCard

/-- THE SECOND FORM's CARD OF 'cupellaw19.DiagOrder'. -/
def diagOrderUptoCard : Claim7 := { stood := { row := diagOrderUptoRow, standIns := [], harness := (true, "81f1227cc17eca488a119313fe282aebb32832c5e3c62c04411da36498b7aeb5"), looks := false }, kinds := [], alts := [], laidByText := true, laidKinds := [.data, .data, .data], laidTests := true, laidLooks := .later }
def DiagOrderUptoCardSaid : Prop := Claim7.holds Tryd.pinned (.plain (OpenSpec.upto diagOrderSpec)) diagOrderUptoCard

/-- THE SECOND FORM's CARD OF 'cupellaw19.DiagLines'. -/
def diagLinesUptoCard : Claim7 := { stood := { row := diagLinesUptoRow, standIns := [], harness := (true, "81f1227cc17eca488a119313fe282aebb32832c5e3c62c04411da36498b7aeb5"), looks := false }, kinds := [], alts := [], laidByText := true, laidKinds := [.data, .data, .data], laidTests := true, laidLooks := .later }
def DiagLinesUptoCardSaid : Prop := Claim7.holds Tryd.pinned (.plain (OpenSpec.upto diagLinesSpec)) diagLinesUptoCard
end Rows
end Go.Proofs.YteinhpfjlfeaaaaDoor

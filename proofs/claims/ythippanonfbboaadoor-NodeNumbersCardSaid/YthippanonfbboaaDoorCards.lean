/-
  DERIVED. GIVEN WITH THE SEED: THE CARDS: each row of YthippanonfbboaaDoorRows.lean that lists a variable, with what it lists TIED to the program's text (the seventh form; the later family's looks); each row that meets fmt, with fmt's text TOLD by the authors' own Lean function (tested against real Go, not proved from fmt's source: count such statements apart). THE CARD IS WHAT COUNTS. Prove the row's statement (the work); the ties are given (YthippanonfbboaaDoorTie.lean); close each card by the builder's one call (the guide's Derived/Test/ToyasCard.lean, 'card_holds'). Laid BY PROGRAM, IN A SANDBOX (cutbox-door.mjs). By AI agents, Wed Nov 11 2026. No macro, syntax, notation, axiom, sorry.
-/
import Derived.Test.YthippanonfbboaaDoorRows
import GoSem.ClaimSeven
namespace Go.Proofs.YthippanonfbboaaDoor
namespace Rows

/-- THE TIED CARD OF 'marionettelaw15.NodeBytes'. -/
def nodeBytesCard : Claim7 := { stood := { row := nodeBytesRow, standIns := [], harness := (true, "eb4dbe71d08a0d3eea9baa6c220e6a5a38041b02b7cecce1fd4d05fd03003fd3"), looks := false }, kinds := [], alts := [], laidByText := true, laidKinds := [.data, .pinned], laidTests := true, laidLooks := .later }
def NodeBytesCardSaid : Prop := Claim7.holds Tryd.pinned (.plain (OpenSpec.ofChange nodeBytesSpec)) nodeBytesCard

/-- THE TIED CARD OF 'marionettelaw15.NodeNumbers'. -/
def nodeNumbersCard : Claim7 := { stood := { row := nodeNumbersRow, standIns := [], harness := (true, "eb4dbe71d08a0d3eea9baa6c220e6a5a38041b02b7cecce1fd4d05fd03003fd3"), looks := false }, kinds := [], alts := [], laidByText := true, laidKinds := [.data, .pinned], laidTests := true, laidLooks := .later }
def NodeNumbersCardSaid : Prop := Claim7.holds Tryd.pinned (.plain (OpenSpec.ofChange nodeNumbersSpec)) nodeNumbersCard

/-- THE TIED CARD OF 'marionettelaw15.NodeTree'. -/
def nodeTreeCard : Claim7 := { stood := { row := nodeTreeRow, standIns := [], harness := (true, "eb4dbe71d08a0d3eea9baa6c220e6a5a38041b02b7cecce1fd4d05fd03003fd3"), looks := false }, kinds := [], alts := [], laidByText := true, laidKinds := [.data, .pinned], laidTests := true, laidLooks := .later }
def NodeTreeCardSaid : Prop := Claim7.holds Tryd.pinned (.plain (OpenSpec.ofChange nodeTreeSpec)) nodeTreeCard

/-- THE TIED CARD OF 'marionettelaw15.NodeNone'. -/
def nodeNoneCard : Claim7 := { stood := { row := nodeNoneRow, standIns := [], harness := (true, "eb4dbe71d08a0d3eea9baa6c220e6a5a38041b02b7cecce1fd4d05fd03003fd3"), looks := false }, kinds := [], alts := [], laidByText := true, laidKinds := [.data, .pinned], laidTests := true, laidLooks := .later }
def NodeNoneCardSaid : Prop := Claim7.holds Tryd.pinned (.plain (OpenSpec.ofChange nodeNoneSpec)) nodeNoneCard

/-- THE SECOND FORM's CARD OF 'marionettelaw15.NodeBytes'. -/
def nodeBytesUptoCard : Claim7 := { stood := { row := nodeBytesUptoRow, standIns := [], harness := (true, "eb4dbe71d08a0d3eea9baa6c220e6a5a38041b02b7cecce1fd4d05fd03003fd3"), looks := false }, kinds := [], alts := [], laidByText := true, laidKinds := [.data, .pinned], laidTests := true, laidLooks := .later }
def NodeBytesUptoCardSaid : Prop := Claim7.holds Tryd.pinned (.plain (OpenSpec.upto nodeBytesSpec)) nodeBytesUptoCard

/-- THE SECOND FORM's CARD OF 'marionettelaw15.NodeNumbers'. -/
def nodeNumbersUptoCard : Claim7 := { stood := { row := nodeNumbersUptoRow, standIns := [], harness := (true, "eb4dbe71d08a0d3eea9baa6c220e6a5a38041b02b7cecce1fd4d05fd03003fd3"), looks := false }, kinds := [], alts := [], laidByText := true, laidKinds := [.data, .pinned], laidTests := true, laidLooks := .later }
def NodeNumbersUptoCardSaid : Prop := Claim7.holds Tryd.pinned (.plain (OpenSpec.upto nodeNumbersSpec)) nodeNumbersUptoCard

/-- THE SECOND FORM's CARD OF 'marionettelaw15.NodeTree'. -/
def nodeTreeUptoCard : Claim7 := { stood := { row := nodeTreeUptoRow, standIns := [], harness := (true, "eb4dbe71d08a0d3eea9baa6c220e6a5a38041b02b7cecce1fd4d05fd03003fd3"), looks := false }, kinds := [], alts := [], laidByText := true, laidKinds := [.data, .pinned], laidTests := true, laidLooks := .later }
def NodeTreeUptoCardSaid : Prop := Claim7.holds Tryd.pinned (.plain (OpenSpec.upto nodeTreeSpec)) nodeTreeUptoCard

/-- THE SECOND FORM's CARD OF 'marionettelaw15.NodeNone'. -/
def nodeNoneUptoCard : Claim7 := { stood := { row := nodeNoneUptoRow, standIns := [], harness := (true, "eb4dbe71d08a0d3eea9baa6c220e6a5a38041b02b7cecce1fd4d05fd03003fd3"), looks := false }, kinds := [], alts := [], laidByText := true, laidKinds := [.data, .pinned], laidTests := true, laidLooks := .later }
def NodeNoneUptoCardSaid : Prop := Claim7.holds Tryd.pinned (.plain (OpenSpec.upto nodeNoneSpec)) nodeNoneUptoCard
end Rows
end Go.Proofs.YthippanonfbboaaDoor

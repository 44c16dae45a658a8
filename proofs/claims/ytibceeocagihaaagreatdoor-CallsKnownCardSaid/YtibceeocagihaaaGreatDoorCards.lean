/-
  DERIVED. GIVEN WITH THE SEED: THE CARDS: each row of YtibceeocagihaaaGreatDoorRows.lean that lists a variable, with what it lists TIED to the program's text (the seventh form; the later family's looks); each row that meets fmt, with fmt's text TOLD by the authors' own Lean function (tested against real Go, not proved from fmt's source: count such statements apart). THE CARD IS WHAT COUNTS. Prove the row's statement (the work); the ties are given (YtibceeocagihaaaGreatDoorTie.lean); close each card by the builder's one call (the guide's Derived/Test/ToyasCard.lean, 'card_holds'). Laid BY PROGRAM, IN A SANDBOX (cutbox-door.mjs). By AI agents, Wed Nov 11 2026. No macro, syntax, notation, axiom, sorry.
-/
import Derived.Test.YtibceeocagihaaaGreatDoorRows
import GoSem.ClaimSeven
namespace Go.Proofs.YtibceeocagihaaaGreatDoor
namespace Rows

/-- THE TIED CARD OF 'marionettelaw24.WorldNone'. -/
def worldNoneCard : Claim7 := { stood := { row := worldNoneRow, standIns := [], harness := (true, "a254452a95f005cb5f73c316d8e598d2502e5aa9cdb047c6a42eb8c6fc6257de"), looks := true }, kinds := [], alts := [], laidByText := true, laidKinds := [.data, .data, .handle, .sentinel, .sentinel, .pinned], laidTests := true, laidLooks := .later }
def WorldNoneCardSaid : Prop := Claim7.holds Tryz.pinned (.plain (OpenSpec.ofChange worldNoneSpec)) worldNoneCard

/-- THE TIED CARD OF 'marionettelaw25.CallsKnown'. -/
def callsKnownCard : Claim7 := { stood := { row := callsKnownRow, standIns := [], harness := (true, "a254452a95f005cb5f73c316d8e598d2502e5aa9cdb047c6a42eb8c6fc6257de"), looks := true }, kinds := [], alts := [], laidByText := true, laidKinds := [.data, .data, .sentinel, .pinned], laidTests := true, laidLooks := .later }
def CallsKnownCardSaid : Prop := Claim7.holds Tryz.pinned (.plain (OpenSpec.ofChange callsKnownSpec)) callsKnownCard

/-- THE SECOND FORM's CARD OF 'marionettelaw24.WorldNone'. -/
def worldNoneUptoCard : Claim7 := { stood := { row := worldNoneUptoRow, standIns := [], harness := (true, "a254452a95f005cb5f73c316d8e598d2502e5aa9cdb047c6a42eb8c6fc6257de"), looks := true }, kinds := [], alts := [], laidByText := true, laidKinds := [.data, .data, .handle, .sentinel, .sentinel, .pinned], laidTests := true, laidLooks := .later }
def WorldNoneUptoCardSaid : Prop := Claim7.holds Tryz.pinned (.plain (OpenSpec.upto worldNoneSpec)) worldNoneUptoCard

/-- THE SECOND FORM's CARD OF 'marionettelaw25.CallsKnown'. -/
def callsKnownUptoCard : Claim7 := { stood := { row := callsKnownUptoRow, standIns := [], harness := (true, "a254452a95f005cb5f73c316d8e598d2502e5aa9cdb047c6a42eb8c6fc6257de"), looks := true }, kinds := [], alts := [], laidByText := true, laidKinds := [.data, .data, .sentinel, .pinned], laidTests := true, laidLooks := .later }
def CallsKnownUptoCardSaid : Prop := Claim7.holds Tryz.pinned (.plain (OpenSpec.upto callsKnownSpec)) callsKnownUptoCard
end Rows
end Go.Proofs.YtibceeocagihaaaGreatDoor

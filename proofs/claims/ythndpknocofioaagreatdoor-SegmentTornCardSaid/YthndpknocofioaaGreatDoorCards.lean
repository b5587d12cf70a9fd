/-
  DERIVED. GIVEN WITH THE SEED: THE CARDS: each row of YthndpknocofioaaGreatDoorRows.lean that lists a variable, with what it lists TIED to the program's text (the seventh form; the later family's looks); each row that meets fmt, with fmt's text TOLD by the authors' own Lean function (tested against real Go, not proved from fmt's source: count such statements apart). THE CARD IS WHAT COUNTS. Prove the row's statement (the work); the ties are given (YthndpknocofioaaGreatDoorTie.lean); close each card by the builder's one call (the guide's Derived/Test/ToyasCard.lean, 'card_holds'). Laid BY PROGRAM, IN A SANDBOX (cutbox-door.mjs). By AI agents, Wed Nov 11 2026. No macro, syntax, notation, axiom, sorry.
-/
import Derived.Test.YthndpknocofioaaGreatDoorRows
import GoSem.ClaimSeven
namespace Go.Proofs.YthndpknocofioaaGreatDoor
namespace Rows

/-- THE TIED CARD OF 'thwartlaw08.SegmentNames'. -/
def segmentNamesCard : Claim7 := { stood := { row := segmentNamesRow, standIns := [], harness := (true, "fff7209a65eb4989194ee428eaf81a0a1d8da9b838823758396929f02de109d5"), looks := true }, kinds := [], alts := [], laidByText := true, laidKinds := [.data, .data, .data, .sentinel, .sentinel], laidTests := true, laidLooks := .later }
def SegmentNamesCardSaid : Prop := Claim7.holds Tryz.pinned (.plain (OpenSpec.ofChange segmentNamesSpec)) segmentNamesCard

/-- THE TIED CARD OF 'thwartlaw08.SegmentHints'. -/
def segmentHintsCard : Claim7 := { stood := { row := segmentHintsRow, standIns := [], harness := (true, "fff7209a65eb4989194ee428eaf81a0a1d8da9b838823758396929f02de109d5"), looks := true }, kinds := [], alts := [], laidByText := true, laidKinds := [.data, .data, .data, .sentinel, .sentinel], laidTests := true, laidLooks := .later }
def SegmentHintsCardSaid : Prop := Claim7.holds Tryz.pinned (.plain (OpenSpec.ofChange segmentHintsSpec)) segmentHintsCard

/-- THE TIED CARD OF 'thwartlaw08.SegmentTorn'. -/
def segmentTornCard : Claim7 := { stood := { row := segmentTornRow, standIns := [], harness := (true, "fff7209a65eb4989194ee428eaf81a0a1d8da9b838823758396929f02de109d5"), looks := true }, kinds := [], alts := [], laidByText := true, laidKinds := [.data, .data, .data, .sentinel, .sentinel], laidTests := true, laidLooks := .later }
def SegmentTornCardSaid : Prop := Claim7.holds Tryz.pinned (.plain (OpenSpec.ofChange segmentTornSpec)) segmentTornCard

/-- THE TIED CARD OF 'thwartlaw08.SegmentPlays'. -/
def segmentPlaysCard : Claim7 := { stood := { row := segmentPlaysRow, standIns := [], harness := (true, "fff7209a65eb4989194ee428eaf81a0a1d8da9b838823758396929f02de109d5"), looks := true }, kinds := [], alts := [], laidByText := true, laidKinds := [.data, .data, .data, .sentinel, .sentinel], laidTests := true, laidLooks := .later }
def SegmentPlaysCardSaid : Prop := Claim7.holds Tryz.pinned (.plain (OpenSpec.ofChange segmentPlaysSpec)) segmentPlaysCard

/-- THE SECOND FORM's CARD OF 'thwartlaw08.SegmentNames'. -/
def segmentNamesUptoCard : Claim7 := { stood := { row := segmentNamesUptoRow, standIns := [], harness := (true, "fff7209a65eb4989194ee428eaf81a0a1d8da9b838823758396929f02de109d5"), looks := true }, kinds := [], alts := [], laidByText := true, laidKinds := [.data, .data, .data, .sentinel, .sentinel], laidTests := true, laidLooks := .later }
def SegmentNamesUptoCardSaid : Prop := Claim7.holds Tryz.pinned (.plain (OpenSpec.upto segmentNamesSpec)) segmentNamesUptoCard

/-- THE SECOND FORM's CARD OF 'thwartlaw08.SegmentHints'. -/
def segmentHintsUptoCard : Claim7 := { stood := { row := segmentHintsUptoRow, standIns := [], harness := (true, "fff7209a65eb4989194ee428eaf81a0a1d8da9b838823758396929f02de109d5"), looks := true }, kinds := [], alts := [], laidByText := true, laidKinds := [.data, .data, .data, .sentinel, .sentinel], laidTests := true, laidLooks := .later }
def SegmentHintsUptoCardSaid : Prop := Claim7.holds Tryz.pinned (.plain (OpenSpec.upto segmentHintsSpec)) segmentHintsUptoCard

/-- THE SECOND FORM's CARD OF 'thwartlaw08.SegmentTorn'. -/
def segmentTornUptoCard : Claim7 := { stood := { row := segmentTornUptoRow, standIns := [], harness := (true, "fff7209a65eb4989194ee428eaf81a0a1d8da9b838823758396929f02de109d5"), looks := true }, kinds := [], alts := [], laidByText := true, laidKinds := [.data, .data, .data, .sentinel, .sentinel], laidTests := true, laidLooks := .later }
def SegmentTornUptoCardSaid : Prop := Claim7.holds Tryz.pinned (.plain (OpenSpec.upto segmentTornSpec)) segmentTornUptoCard

/-- THE SECOND FORM's CARD OF 'thwartlaw08.SegmentPlays'. -/
def segmentPlaysUptoCard : Claim7 := { stood := { row := segmentPlaysUptoRow, standIns := [], harness := (true, "fff7209a65eb4989194ee428eaf81a0a1d8da9b838823758396929f02de109d5"), looks := true }, kinds := [], alts := [], laidByText := true, laidKinds := [.data, .data, .data, .sentinel, .sentinel], laidTests := true, laidLooks := .later }
def SegmentPlaysUptoCardSaid : Prop := Claim7.holds Tryz.pinned (.plain (OpenSpec.upto segmentPlaysSpec)) segmentPlaysUptoCard
end Rows
end Go.Proofs.YthndpknocofioaaGreatDoor

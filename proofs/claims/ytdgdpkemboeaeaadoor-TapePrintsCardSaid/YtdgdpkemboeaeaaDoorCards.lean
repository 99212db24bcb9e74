/-
  DERIVED. GIVEN WITH THE SEED: THE CARDS: each row of YtdgdpkemboeaeaaDoorRows.lean that lists a variable, with what it lists TIED to the program's text (the seventh form; the later family's looks); each row that meets fmt, with fmt's text TOLD by the authors' own Lean function (tested against real Go, not proved from fmt's source: count such statements apart). THE CARD IS WHAT COUNTS. Prove the row's statement (the work); the ties are given (YtdgdpkemboeaeaaDoorTie.lean); close each card by the builder's one call (the guide's Derived/Test/ToyasCard.lean, 'card_holds'). Laid BY PROGRAM, IN A SANDBOX (cutbox-door.mjs). By AI agents, Wed Nov 11 2026. No macro, syntax, notation, axiom, sorry.
-/
import Derived.Test.YtdgdpkemboeaeaaDoorRows
import GoSem.ClaimSeven
namespace Go.Proofs.YtdgdpkemboeaeaaDoor
namespace Rows

/-- THE TIED CARD OF 'tidemilllaw01.FixTexts'. -/
def fixTextsCard : Claim7 := { stood := { row := fixTextsRow, standIns := [], harness := (true, "c0f128335acc2f8dd773d3302faeea59b2ed3d870e1526a37815fac23ede624e"), looks := true }, kinds := [], alts := [], laidByText := true, laidKinds := [.data, .data, .data, .data, .sentinel, .sentinel, .pinned], laidTests := true, laidLooks := .later }
def FixTextsCardSaid : Prop := Claim7.holds Tryd.pinned (.plain (OpenSpec.ofChange fixTextsSpec)) fixTextsCard

/-- THE TIED CARD OF 'tidemilllaw01.FixReads'. -/
def fixReadsCard : Claim7 := { stood := { row := fixReadsRow, standIns := [], harness := (true, "c0f128335acc2f8dd773d3302faeea59b2ed3d870e1526a37815fac23ede624e"), looks := true }, kinds := [], alts := [], laidByText := true, laidKinds := [.data, .data, .data, .data, .sentinel, .sentinel, .pinned], laidTests := true, laidLooks := .later }
def FixReadsCardSaid : Prop := Claim7.holds Tryd.pinned (.plain (OpenSpec.ofChange fixReadsSpec)) fixReadsCard

/-- THE TIED CARD OF 'tidemilllaw01.FixAdds'. -/
def fixAddsCard : Claim7 := { stood := { row := fixAddsRow, standIns := [], harness := (true, "c0f128335acc2f8dd773d3302faeea59b2ed3d870e1526a37815fac23ede624e"), looks := true }, kinds := [], alts := [], laidByText := true, laidKinds := [.data, .data, .data, .data, .sentinel, .sentinel, .pinned], laidTests := true, laidLooks := .later }
def FixAddsCardSaid : Prop := Claim7.holds Tryd.pinned (.plain (OpenSpec.ofChange fixAddsSpec)) fixAddsCard

/-- THE TIED CARD OF 'tidemilllaw01.FixSums'. -/
def fixSumsCard : Claim7 := { stood := { row := fixSumsRow, standIns := [], harness := (true, "c0f128335acc2f8dd773d3302faeea59b2ed3d870e1526a37815fac23ede624e"), looks := true }, kinds := [], alts := [], laidByText := true, laidKinds := [.data, .data, .data, .data, .sentinel, .sentinel, .pinned], laidTests := true, laidLooks := .later }
def FixSumsCardSaid : Prop := Claim7.holds Tryd.pinned (.plain (OpenSpec.ofChange fixSumsSpec)) fixSumsCard

/-- THE TIED CARD OF 'tidemilllaw01.FixTimes'. -/
def fixTimesCard : Claim7 := { stood := { row := fixTimesRow, standIns := [], harness := (true, "c0f128335acc2f8dd773d3302faeea59b2ed3d870e1526a37815fac23ede624e"), looks := true }, kinds := [], alts := [], laidByText := true, laidKinds := [.data, .data, .data, .data, .sentinel, .sentinel, .pinned], laidTests := true, laidLooks := .later }
def FixTimesCardSaid : Prop := Claim7.holds Tryd.pinned (.plain (OpenSpec.ofChange fixTimesSpec)) fixTimesCard

/-- THE TIED CARD OF 'tidemilllaw26.TapeLines'. -/
def tapeLinesCard : Claim7 := { stood := { row := tapeLinesRow, standIns := [], harness := (true, "c0f128335acc2f8dd773d3302faeea59b2ed3d870e1526a37815fac23ede624e"), looks := true }, kinds := [], alts := [], laidByText := true, laidKinds := [.data, .data, .data, .data, .sentinel, .sentinel, .widerDeep, .pinned], laidTests := true, laidLooks := .later }
def TapeLinesCardSaid : Prop := Claim7.holds Tryd.pinned (.plain (OpenSpec.ofChange tapeLinesSpec)) tapeLinesCard

/-- THE TIED CARD OF 'tidemilllaw26.TapeShows'. -/
def tapeShowsCard : Claim7 := { stood := { row := tapeShowsRow, standIns := [], harness := (true, "c0f128335acc2f8dd773d3302faeea59b2ed3d870e1526a37815fac23ede624e"), looks := true }, kinds := [], alts := [], laidByText := true, laidKinds := [.data, .data, .data, .data, .sentinel, .sentinel, .widerDeep, .pinned], laidTests := true, laidLooks := .later }
def TapeShowsCardSaid : Prop := Claim7.holds Tryd.pinned (.plain (OpenSpec.ofChange tapeShowsSpec)) tapeShowsCard

/-- THE TIED CARD OF 'tidemilllaw26.TapePrints'. -/
def tapePrintsCard : Claim7 := { stood := { row := tapePrintsRow, standIns := [], harness := (true, "c0f128335acc2f8dd773d3302faeea59b2ed3d870e1526a37815fac23ede624e"), looks := true }, kinds := [], alts := [], laidByText := true, laidKinds := [.data, .data, .data, .data, .sentinel, .sentinel, .widerDeep, .pinned], laidTests := true, laidLooks := .later }
def TapePrintsCardSaid : Prop := Claim7.holds Tryd.pinned (.plain (OpenSpec.ofChange tapePrintsSpec)) tapePrintsCard

/-- THE TIED CARD OF 'tidemilllaw26.TapeParses'. -/
def tapeParsesCard : Claim7 := { stood := { row := tapeParsesRow, standIns := [], harness := (true, "c0f128335acc2f8dd773d3302faeea59b2ed3d870e1526a37815fac23ede624e"), looks := true }, kinds := [], alts := [], laidByText := true, laidKinds := [.data, .data, .data, .data, .sentinel, .sentinel, .widerDeep, .pinned], laidTests := true, laidLooks := .later }
def TapeParsesCardSaid : Prop := Claim7.holds Tryd.pinned (.plain (OpenSpec.ofChange tapeParsesSpec)) tapeParsesCard

/-- THE SECOND FORM's CARD OF 'tidemilllaw01.FixTexts'. -/
def fixTextsUptoCard : Claim7 := { stood := { row := fixTextsUptoRow, standIns := [], harness := (true, "c0f128335acc2f8dd773d3302faeea59b2ed3d870e1526a37815fac23ede624e"), looks := true }, kinds := [], alts := [], laidByText := true, laidKinds := [.data, .data, .data, .data, .sentinel, .sentinel, .pinned], laidTests := true, laidLooks := .later }
def FixTextsUptoCardSaid : Prop := Claim7.holds Tryd.pinned (.plain (OpenSpec.upto fixTextsSpec)) fixTextsUptoCard

/-- THE SECOND FORM's CARD OF 'tidemilllaw01.FixReads'. -/
def fixReadsUptoCard : Claim7 := { stood := { row := fixReadsUptoRow, standIns := [], harness := (true, "c0f128335acc2f8dd773d3302faeea59b2ed3d870e1526a37815fac23ede624e"), looks := true }, kinds := [], alts := [], laidByText := true, laidKinds := [.data, .data, .data, .data, .sentinel, .sentinel, .pinned], laidTests := true, laidLooks := .later }
def FixReadsUptoCardSaid : Prop := Claim7.holds Tryd.pinned (.plain (OpenSpec.upto fixReadsSpec)) fixReadsUptoCard

/-- THE SECOND FORM's CARD OF 'tidemilllaw01.FixAdds'. -/
def fixAddsUptoCard : Claim7 := { stood := { row := fixAddsUptoRow, standIns := [], harness := (true, "c0f128335acc2f8dd773d3302faeea59b2ed3d870e1526a37815fac23ede624e"), looks := true }, kinds := [], alts := [], laidByText := true, laidKinds := [.data, .data, .data, .data, .sentinel, .sentinel, .pinned], laidTests := true, laidLooks := .later }
def FixAddsUptoCardSaid : Prop := Claim7.holds Tryd.pinned (.plain (OpenSpec.upto fixAddsSpec)) fixAddsUptoCard

/-- THE SECOND FORM's CARD OF 'tidemilllaw01.FixSums'. -/
def fixSumsUptoCard : Claim7 := { stood := { row := fixSumsUptoRow, standIns := [], harness := (true, "c0f128335acc2f8dd773d3302faeea59b2ed3d870e1526a37815fac23ede624e"), looks := true }, kinds := [], alts := [], laidByText := true, laidKinds := [.data, .data, .data, .data, .sentinel, .sentinel, .pinned], laidTests := true, laidLooks := .later }
def FixSumsUptoCardSaid : Prop := Claim7.holds Tryd.pinned (.plain (OpenSpec.upto fixSumsSpec)) fixSumsUptoCard

/-- THE SECOND FORM's CARD OF 'tidemilllaw01.FixTimes'. -/
def fixTimesUptoCard : Claim7 := { stood := { row := fixTimesUptoRow, standIns := [], harness := (true, "c0f128335acc2f8dd773d3302faeea59b2ed3d870e1526a37815fac23ede624e"), looks := true }, kinds := [], alts := [], laidByText := true, laidKinds := [.data, .data, .data, .data, .sentinel, .sentinel, .pinned], laidTests := true, laidLooks := .later }
def FixTimesUptoCardSaid : Prop := Claim7.holds Tryd.pinned (.plain (OpenSpec.upto fixTimesSpec)) fixTimesUptoCard

/-- THE SECOND FORM's CARD OF 'tidemilllaw26.TapeLines'. -/
def tapeLinesUptoCard : Claim7 := { stood := { row := tapeLinesUptoRow, standIns := [], harness := (true, "c0f128335acc2f8dd773d3302faeea59b2ed3d870e1526a37815fac23ede624e"), looks := true }, kinds := [], alts := [], laidByText := true, laidKinds := [.data, .data, .data, .data, .sentinel, .sentinel, .widerDeep, .pinned], laidTests := true, laidLooks := .later }
def TapeLinesUptoCardSaid : Prop := Claim7.holds Tryd.pinned (.plain (OpenSpec.upto tapeLinesSpec)) tapeLinesUptoCard

/-- THE SECOND FORM's CARD OF 'tidemilllaw26.TapeShows'. -/
def tapeShowsUptoCard : Claim7 := { stood := { row := tapeShowsUptoRow, standIns := [], harness := (true, "c0f128335acc2f8dd773d3302faeea59b2ed3d870e1526a37815fac23ede624e"), looks := true }, kinds := [], alts := [], laidByText := true, laidKinds := [.data, .data, .data, .data, .sentinel, .sentinel, .widerDeep, .pinned], laidTests := true, laidLooks := .later }
def TapeShowsUptoCardSaid : Prop := Claim7.holds Tryd.pinned (.plain (OpenSpec.upto tapeShowsSpec)) tapeShowsUptoCard

/-- THE SECOND FORM's CARD OF 'tidemilllaw26.TapePrints'. -/
def tapePrintsUptoCard : Claim7 := { stood := { row := tapePrintsUptoRow, standIns := [], harness := (true, "c0f128335acc2f8dd773d3302faeea59b2ed3d870e1526a37815fac23ede624e"), looks := true }, kinds := [], alts := [], laidByText := true, laidKinds := [.data, .data, .data, .data, .sentinel, .sentinel, .widerDeep, .pinned], laidTests := true, laidLooks := .later }
def TapePrintsUptoCardSaid : Prop := Claim7.holds Tryd.pinned (.plain (OpenSpec.upto tapePrintsSpec)) tapePrintsUptoCard

/-- THE SECOND FORM's CARD OF 'tidemilllaw26.TapeParses'. -/
def tapeParsesUptoCard : Claim7 := { stood := { row := tapeParsesUptoRow, standIns := [], harness := (true, "c0f128335acc2f8dd773d3302faeea59b2ed3d870e1526a37815fac23ede624e"), looks := true }, kinds := [], alts := [], laidByText := true, laidKinds := [.data, .data, .data, .data, .sentinel, .sentinel, .widerDeep, .pinned], laidTests := true, laidLooks := .later }
def TapeParsesUptoCardSaid : Prop := Claim7.holds Tryd.pinned (.plain (OpenSpec.upto tapeParsesSpec)) tapeParsesUptoCard
end Rows
end Go.Proofs.YtdgdpkemboeaeaaDoor

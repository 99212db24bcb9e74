/-
  DERIVED. GIVEN WITH THE SEED: THE CARDS: each row of YtkclojakmhipnaaDoorRows.lean that lists a variable, with what it lists TIED to the program's text (the seventh form; the later family's looks); each row that meets fmt, with fmt's text TOLD by the authors' own Lean function (tested against real Go, not proved from fmt's source: count such statements apart). THE CARD IS WHAT COUNTS. Prove the row's statement (the work); the ties are given (YtkclojakmhipnaaDoorTie.lean); close each card by the builder's one call (the guide's Derived/Test/ToyasCard.lean, 'card_holds'). Laid BY PROGRAM, IN A SANDBOX (cutbox-door.mjs). By AI agents, Wed Nov 11 2026. No macro, syntax, notation, axiom, sorry.
-/
import Derived.Test.YtkclojakmhipnaaDoorRows
import GoSem.ClaimSeven
namespace Go.Proofs.YtkclojakmhipnaaDoor
namespace Rows

/-- THE TIED CARD OF 'tidemilllaw02.TagGood'. -/
def tagGoodCard : Claim7 := { stood := { row := tagGoodRow, standIns := [], harness := (true, "13d82f207534ee766b5098cabe2a27fd9ecd0fdafe9adb021579981dbd5f527b"), looks := true }, kinds := [], alts := [], laidByText := true, laidKinds := [.data, .pinned], laidTests := true, laidLooks := .later }
def TagGoodCardSaid : Prop := Claim7.holds Tryd.pinned (.plain (OpenSpec.ofChange tagGoodSpec)) tagGoodCard

/-- THE TIED CARD OF 'tidemilllaw02.TagReads'. -/
def tagReadsCard : Claim7 := { stood := { row := tagReadsRow, standIns := [], harness := (true, "13d82f207534ee766b5098cabe2a27fd9ecd0fdafe9adb021579981dbd5f527b"), looks := true }, kinds := [], alts := [], laidByText := true, laidKinds := [.data, .pinned], laidTests := true, laidLooks := .later }
def TagReadsCardSaid : Prop := Claim7.holds Tryd.pinned (.plain (OpenSpec.ofChange tagReadsSpec)) tagReadsCard

/-- THE TIED CARD OF 'tidemilllaw01.FixTexts'. -/
def fixTextsCard : Claim7 := { stood := { row := fixTextsRow, standIns := [], harness := (true, "13d82f207534ee766b5098cabe2a27fd9ecd0fdafe9adb021579981dbd5f527b"), looks := true }, kinds := [], alts := [], laidByText := true, laidKinds := [.data, .data, .data, .data, .sentinel, .sentinel, .pinned], laidTests := true, laidLooks := .later }
def FixTextsCardSaid : Prop := Claim7.holds Tryd.pinned (.plain (OpenSpec.ofChange fixTextsSpec)) fixTextsCard

/-- THE TIED CARD OF 'tidemilllaw01.FixReads'. -/
def fixReadsCard : Claim7 := { stood := { row := fixReadsRow, standIns := [], harness := (true, "13d82f207534ee766b5098cabe2a27fd9ecd0fdafe9adb021579981dbd5f527b"), looks := true }, kinds := [], alts := [], laidByText := true, laidKinds := [.data, .data, .data, .data, .sentinel, .sentinel, .pinned], laidTests := true, laidLooks := .later }
def FixReadsCardSaid : Prop := Claim7.holds Tryd.pinned (.plain (OpenSpec.ofChange fixReadsSpec)) fixReadsCard

/-- THE TIED CARD OF 'tidemilllaw01.FixAdds'. -/
def fixAddsCard : Claim7 := { stood := { row := fixAddsRow, standIns := [], harness := (true, "13d82f207534ee766b5098cabe2a27fd9ecd0fdafe9adb021579981dbd5f527b"), looks := true }, kinds := [], alts := [], laidByText := true, laidKinds := [.data, .data, .data, .data, .sentinel, .sentinel, .pinned], laidTests := true, laidLooks := .later }
def FixAddsCardSaid : Prop := Claim7.holds Tryd.pinned (.plain (OpenSpec.ofChange fixAddsSpec)) fixAddsCard

/-- THE TIED CARD OF 'tidemilllaw01.FixSums'. -/
def fixSumsCard : Claim7 := { stood := { row := fixSumsRow, standIns := [], harness := (true, "13d82f207534ee766b5098cabe2a27fd9ecd0fdafe9adb021579981dbd5f527b"), looks := true }, kinds := [], alts := [], laidByText := true, laidKinds := [.data, .data, .data, .data, .sentinel, .sentinel, .pinned], laidTests := true, laidLooks := .later }
def FixSumsCardSaid : Prop := Claim7.holds Tryd.pinned (.plain (OpenSpec.ofChange fixSumsSpec)) fixSumsCard

/-- THE TIED CARD OF 'tidemilllaw01.FixTimes'. -/
def fixTimesCard : Claim7 := { stood := { row := fixTimesRow, standIns := [], harness := (true, "13d82f207534ee766b5098cabe2a27fd9ecd0fdafe9adb021579981dbd5f527b"), looks := true }, kinds := [], alts := [], laidByText := true, laidKinds := [.data, .data, .data, .data, .sentinel, .sentinel, .pinned], laidTests := true, laidLooks := .later }
def FixTimesCardSaid : Prop := Claim7.holds Tryd.pinned (.plain (OpenSpec.ofChange fixTimesSpec)) fixTimesCard

/-- THE SECOND FORM's CARD OF 'tidemilllaw02.TagGood'. -/
def tagGoodUptoCard : Claim7 := { stood := { row := tagGoodUptoRow, standIns := [], harness := (true, "13d82f207534ee766b5098cabe2a27fd9ecd0fdafe9adb021579981dbd5f527b"), looks := true }, kinds := [], alts := [], laidByText := true, laidKinds := [.data, .pinned], laidTests := true, laidLooks := .later }
def TagGoodUptoCardSaid : Prop := Claim7.holds Tryd.pinned (.plain (OpenSpec.upto tagGoodSpec)) tagGoodUptoCard

/-- THE SECOND FORM's CARD OF 'tidemilllaw02.TagReads'. -/
def tagReadsUptoCard : Claim7 := { stood := { row := tagReadsUptoRow, standIns := [], harness := (true, "13d82f207534ee766b5098cabe2a27fd9ecd0fdafe9adb021579981dbd5f527b"), looks := true }, kinds := [], alts := [], laidByText := true, laidKinds := [.data, .pinned], laidTests := true, laidLooks := .later }
def TagReadsUptoCardSaid : Prop := Claim7.holds Tryd.pinned (.plain (OpenSpec.upto tagReadsSpec)) tagReadsUptoCard

/-- THE SECOND FORM's CARD OF 'tidemilllaw01.FixTexts'. -/
def fixTextsUptoCard : Claim7 := { stood := { row := fixTextsUptoRow, standIns := [], harness := (true, "13d82f207534ee766b5098cabe2a27fd9ecd0fdafe9adb021579981dbd5f527b"), looks := true }, kinds := [], alts := [], laidByText := true, laidKinds := [.data, .data, .data, .data, .sentinel, .sentinel, .pinned], laidTests := true, laidLooks := .later }
def FixTextsUptoCardSaid : Prop := Claim7.holds Tryd.pinned (.plain (OpenSpec.upto fixTextsSpec)) fixTextsUptoCard

/-- THE SECOND FORM's CARD OF 'tidemilllaw01.FixReads'. -/
def fixReadsUptoCard : Claim7 := { stood := { row := fixReadsUptoRow, standIns := [], harness := (true, "13d82f207534ee766b5098cabe2a27fd9ecd0fdafe9adb021579981dbd5f527b"), looks := true }, kinds := [], alts := [], laidByText := true, laidKinds := [.data, .data, .data, .data, .sentinel, .sentinel, .pinned], laidTests := true, laidLooks := .later }
def FixReadsUptoCardSaid : Prop := Claim7.holds Tryd.pinned (.plain (OpenSpec.upto fixReadsSpec)) fixReadsUptoCard

/-- THE SECOND FORM's CARD OF 'tidemilllaw01.FixAdds'. -/
def fixAddsUptoCard : Claim7 := { stood := { row := fixAddsUptoRow, standIns := [], harness := (true, "13d82f207534ee766b5098cabe2a27fd9ecd0fdafe9adb021579981dbd5f527b"), looks := true }, kinds := [], alts := [], laidByText := true, laidKinds := [.data, .data, .data, .data, .sentinel, .sentinel, .pinned], laidTests := true, laidLooks := .later }
def FixAddsUptoCardSaid : Prop := Claim7.holds Tryd.pinned (.plain (OpenSpec.upto fixAddsSpec)) fixAddsUptoCard

/-- THE SECOND FORM's CARD OF 'tidemilllaw01.FixSums'. -/
def fixSumsUptoCard : Claim7 := { stood := { row := fixSumsUptoRow, standIns := [], harness := (true, "13d82f207534ee766b5098cabe2a27fd9ecd0fdafe9adb021579981dbd5f527b"), looks := true }, kinds := [], alts := [], laidByText := true, laidKinds := [.data, .data, .data, .data, .sentinel, .sentinel, .pinned], laidTests := true, laidLooks := .later }
def FixSumsUptoCardSaid : Prop := Claim7.holds Tryd.pinned (.plain (OpenSpec.upto fixSumsSpec)) fixSumsUptoCard

/-- THE SECOND FORM's CARD OF 'tidemilllaw01.FixTimes'. -/
def fixTimesUptoCard : Claim7 := { stood := { row := fixTimesUptoRow, standIns := [], harness := (true, "13d82f207534ee766b5098cabe2a27fd9ecd0fdafe9adb021579981dbd5f527b"), looks := true }, kinds := [], alts := [], laidByText := true, laidKinds := [.data, .data, .data, .data, .sentinel, .sentinel, .pinned], laidTests := true, laidLooks := .later }
def FixTimesUptoCardSaid : Prop := Claim7.holds Tryd.pinned (.plain (OpenSpec.upto fixTimesSpec)) fixTimesUptoCard
end Rows
end Go.Proofs.YtkclojakmhipnaaDoor

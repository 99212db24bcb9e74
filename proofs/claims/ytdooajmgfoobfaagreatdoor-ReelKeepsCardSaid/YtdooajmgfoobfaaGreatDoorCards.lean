/-
  DERIVED. GIVEN WITH THE SEED: THE CARDS: each row of YtdooajmgfoobfaaGreatDoorRows.lean that lists a variable, with what it lists TIED to the program's text (the seventh form; the later family's looks); each row that meets fmt, with fmt's text TOLD by the authors' own Lean function (tested against real Go, not proved from fmt's source: count such statements apart). THE CARD IS WHAT COUNTS. Prove the row's statement (the work); the ties are given (YtdooajmgfoobfaaGreatDoorTie.lean); close each card by the builder's one call (the guide's Derived/Test/ToyasCard.lean, 'card_holds'). Laid BY PROGRAM, IN A SANDBOX (cutbox-door.mjs). By AI agents, Wed Nov 11 2026. No macro, syntax, notation, axiom, sorry.
-/
import Derived.Test.YtdooajmgfoobfaaGreatDoorRows
import GoSem.ClaimSeven
namespace Go.Proofs.YtdooajmgfoobfaaGreatDoor
namespace Rows

/-- THE TIED CARD OF 'tidemilllaw18.ReelGoes'. -/
def reelGoesCard : Claim7 := { stood := { row := reelGoesRow, standIns := [], harness := (true, "194847cdec1fa4a01e8d7c2a372d039c33b955bd930e087fbee15c45f3bdb296"), looks := true }, kinds := [], alts := [], laidByText := true, laidKinds := [.data, .data, .data, .sentinel, .sentinel, .data], laidTests := true, laidLooks := .later }
def ReelGoesCardSaid : Prop := Claim7.holds Tryz.pinned (.plain (OpenSpec.ofChange reelGoesSpec)) reelGoesCard

/-- THE TIED CARD OF 'tidemilllaw18.ReelKeeps'. -/
def reelKeepsCard : Claim7 := { stood := { row := reelKeepsRow, standIns := [], harness := (true, "194847cdec1fa4a01e8d7c2a372d039c33b955bd930e087fbee15c45f3bdb296"), looks := true }, kinds := [], alts := [], laidByText := true, laidKinds := [.data, .data, .data, .sentinel, .sentinel, .data], laidTests := true, laidLooks := .later }
def ReelKeepsCardSaid : Prop := Claim7.holds Tryz.pinned (.plain (OpenSpec.ofChange reelKeepsSpec)) reelKeepsCard

/-- THE TIED CARD OF 'tidemilllaw18.ReelOpens'. -/
def reelOpensCard : Claim7 := { stood := { row := reelOpensRow, standIns := [], harness := (true, "194847cdec1fa4a01e8d7c2a372d039c33b955bd930e087fbee15c45f3bdb296"), looks := true }, kinds := [], alts := [], laidByText := true, laidKinds := [.data, .data, .data, .sentinel, .sentinel, .data], laidTests := true, laidLooks := .later }
def ReelOpensCardSaid : Prop := Claim7.holds Tryz.pinned (.plain (OpenSpec.ofChange reelOpensSpec)) reelOpensCard

/-- THE SECOND FORM's CARD OF 'tidemilllaw18.ReelGoes'. -/
def reelGoesUptoCard : Claim7 := { stood := { row := reelGoesUptoRow, standIns := [], harness := (true, "194847cdec1fa4a01e8d7c2a372d039c33b955bd930e087fbee15c45f3bdb296"), looks := true }, kinds := [], alts := [], laidByText := true, laidKinds := [.data, .data, .data, .sentinel, .sentinel, .data], laidTests := true, laidLooks := .later }
def ReelGoesUptoCardSaid : Prop := Claim7.holds Tryz.pinned (.plain (OpenSpec.upto reelGoesSpec)) reelGoesUptoCard

/-- THE SECOND FORM's CARD OF 'tidemilllaw18.ReelKeeps'. -/
def reelKeepsUptoCard : Claim7 := { stood := { row := reelKeepsUptoRow, standIns := [], harness := (true, "194847cdec1fa4a01e8d7c2a372d039c33b955bd930e087fbee15c45f3bdb296"), looks := true }, kinds := [], alts := [], laidByText := true, laidKinds := [.data, .data, .data, .sentinel, .sentinel, .data], laidTests := true, laidLooks := .later }
def ReelKeepsUptoCardSaid : Prop := Claim7.holds Tryz.pinned (.plain (OpenSpec.upto reelKeepsSpec)) reelKeepsUptoCard

/-- THE SECOND FORM's CARD OF 'tidemilllaw18.ReelOpens'. -/
def reelOpensUptoCard : Claim7 := { stood := { row := reelOpensUptoRow, standIns := [], harness := (true, "194847cdec1fa4a01e8d7c2a372d039c33b955bd930e087fbee15c45f3bdb296"), looks := true }, kinds := [], alts := [], laidByText := true, laidKinds := [.data, .data, .data, .sentinel, .sentinel, .data], laidTests := true, laidLooks := .later }
def ReelOpensUptoCardSaid : Prop := Claim7.holds Tryz.pinned (.plain (OpenSpec.upto reelOpensSpec)) reelOpensUptoCard
end Rows
end Go.Proofs.YtdooajmgfoobfaaGreatDoor

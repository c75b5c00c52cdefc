/-
  DERIVED. GIVEN WITH THE SEED: THE CARDS: each row of YtcdhfelcgcnoiaaDoorRows.lean that lists a variable, with what it lists TIED to the program's text (the seventh form; the later family's looks); each row that meets fmt, with fmt's text TOLD by the authors' own Lean function (tested against real Go, not proved from fmt's source: count such statements apart). THE CARD IS WHAT COUNTS. Prove the row's statement (the work); the ties are given (YtcdhfelcgcnoiaaDoorTie.lean); close each card by the builder's one call (the guide's Derived/Test/ToyasCard.lean, 'card_holds'). Laid BY PROGRAM, IN A SANDBOX (cutbox-door.mjs). By AI agents, Wed Nov 11 2026. No macro, syntax, notation, axiom, sorry.
-/
import Derived.Test.YtcdhfelcgcnoiaaDoorRows
import GoSem.ClaimSeven
namespace Go.Proofs.YtcdhfelcgcnoiaaDoor
namespace Rows

/-- THE TIED CARD OF 'hammocklaw02.FaultFinds'. -/
def faultFindsCard : Claim7 := { stood := { row := faultFindsRow, standIns := [], harness := (true, "985e946ab04722e41463d59d776b5a62dc39a15c18ba19b59cd11a699bbf00eb"), looks := true }, kinds := [], alts := [], laidByText := true, laidKinds := [.handle, .data, .data], laidTests := true, laidLooks := .later }
def FaultFindsCardSaid : Prop := Claim7.holds Tryd.pinned (.plain (OpenSpec.ofChange faultFindsSpec)) faultFindsCard

/-- THE TIED CARD OF 'hammocklaw02.FaultWraps'. -/
def faultWrapsCard : Claim7 := { stood := { row := faultWrapsRow, standIns := [], harness := (true, "985e946ab04722e41463d59d776b5a62dc39a15c18ba19b59cd11a699bbf00eb"), looks := true }, kinds := [], alts := [], laidByText := true, laidKinds := [.handle, .data, .data], laidTests := true, laidLooks := .later }
def FaultWrapsCardSaid : Prop := Claim7.holds Tryd.pinned (.plain (OpenSpec.ofChange faultWrapsSpec)) faultWrapsCard

/-- THE SECOND FORM's CARD OF 'hammocklaw02.FaultFinds'. -/
def faultFindsUptoCard : Claim7 := { stood := { row := faultFindsUptoRow, standIns := [], harness := (true, "985e946ab04722e41463d59d776b5a62dc39a15c18ba19b59cd11a699bbf00eb"), looks := true }, kinds := [], alts := [], laidByText := true, laidKinds := [.handle, .data, .data], laidTests := true, laidLooks := .later }
def FaultFindsUptoCardSaid : Prop := Claim7.holds Tryd.pinned (.plain (OpenSpec.upto faultFindsSpec)) faultFindsUptoCard

/-- THE SECOND FORM's CARD OF 'hammocklaw02.FaultWraps'. -/
def faultWrapsUptoCard : Claim7 := { stood := { row := faultWrapsUptoRow, standIns := [], harness := (true, "985e946ab04722e41463d59d776b5a62dc39a15c18ba19b59cd11a699bbf00eb"), looks := true }, kinds := [], alts := [], laidByText := true, laidKinds := [.handle, .data, .data], laidTests := true, laidLooks := .later }
def FaultWrapsUptoCardSaid : Prop := Claim7.holds Tryd.pinned (.plain (OpenSpec.upto faultWrapsSpec)) faultWrapsUptoCard
end Rows
end Go.Proofs.YtcdhfelcgcnoiaaDoor

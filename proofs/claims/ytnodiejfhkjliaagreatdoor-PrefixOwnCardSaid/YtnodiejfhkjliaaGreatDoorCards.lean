/-
  DERIVED. GIVEN WITH THE SEED: THE CARDS: each row of YtnodiejfhkjliaaGreatDoorRows.lean that lists a variable, with what it lists TIED to the program's text (the seventh form; the later family's looks); each row that meets fmt, with fmt's text TOLD by the authors' own Lean function (tested against real Go, not proved from fmt's source: count such statements apart). THE CARD IS WHAT COUNTS. Prove the row's statement (the work); the ties are given (YtnodiejfhkjliaaGreatDoorTie.lean); close each card by the builder's one call (the guide's Derived/Test/ToyasCard.lean, 'card_holds'). Laid BY PROGRAM, IN A SANDBOX (cutbox-door.mjs). By AI agents, Wed Nov 11 2026. No macro, syntax, notation, axiom, sorry.
-/
import Derived.Test.YtnodiejfhkjliaaGreatDoorRows
import GoSem.ClaimSeven
namespace Go.Proofs.YtnodiejfhkjliaaGreatDoor
namespace Rows

/-- THE TIED CARD OF 'culvertlaw7.PrefixOwn'. -/
def prefixOwnCard : Claim7 := { stood := { row := prefixOwnRow, standIns := [], harness := (true, "120a9c99a7931608a5929468a0c466ac2a9eec8e0a92b99253f70875845d81a1"), looks := true }, kinds := [], alts := [], laidByText := true, laidKinds := [.data, .data, .data, .sentinel, .sentinel], laidTests := true, laidLooks := .later }
def PrefixOwnCardSaid : Prop := Claim7.holds Tryz.pinned (.plain (OpenSpec.ofChange prefixOwnSpec)) prefixOwnCard

/-- THE SECOND FORM's CARD OF 'culvertlaw7.PrefixOwn'. -/
def prefixOwnUptoCard : Claim7 := { stood := { row := prefixOwnUptoRow, standIns := [], harness := (true, "120a9c99a7931608a5929468a0c466ac2a9eec8e0a92b99253f70875845d81a1"), looks := true }, kinds := [], alts := [], laidByText := true, laidKinds := [.data, .data, .data, .sentinel, .sentinel], laidTests := true, laidLooks := .later }
def PrefixOwnUptoCardSaid : Prop := Claim7.holds Tryz.pinned (.plain (OpenSpec.upto prefixOwnSpec)) prefixOwnUptoCard
end Rows
end Go.Proofs.YtnodiejfhkjliaaGreatDoor

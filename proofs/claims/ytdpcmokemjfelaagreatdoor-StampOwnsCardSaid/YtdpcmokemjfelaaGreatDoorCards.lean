/-
  DERIVED. GIVEN WITH THE SEED: THE CARDS: each row of YtdpcmokemjfelaaGreatDoorRows.lean that lists a variable, with what it lists TIED to the program's text (the seventh form; the later family's looks); each row that meets fmt, with fmt's text TOLD by the authors' own Lean function (tested against real Go, not proved from fmt's source: count such statements apart). THE CARD IS WHAT COUNTS. Prove the row's statement (the work); the ties are given (YtdpcmokemjfelaaGreatDoorTie.lean); close each card by the builder's one call (the guide's Derived/Test/ToyasCard.lean, 'card_holds'). Laid BY PROGRAM, IN A SANDBOX (cutbox-door.mjs). By AI agents, Wed Nov 11 2026. No macro, syntax, notation, axiom, sorry.
-/
import Derived.Test.YtdpcmokemjfelaaGreatDoorRows
import GoSem.ClaimSeven
namespace Go.Proofs.YtdpcmokemjfelaaGreatDoor
namespace Rows

/-- THE TIED CARD OF 'culvertlaw6.StampOwns'. -/
def stampOwnsCard : Claim7 := { stood := { row := stampOwnsRow, standIns := [], harness := (true, "23d4dd5ed5a36c3de644d9cf5841711d5f9f074f30c5ede46b600aa949c806db"), looks := true }, kinds := [], alts := [], laidByText := true, laidKinds := [.data, .data, .data, .sentinel, .sentinel], laidTests := true, laidLooks := .later }
def StampOwnsCardSaid : Prop := Claim7.holds Tryz.pinned (.plain (OpenSpec.ofChange stampOwnsSpec)) stampOwnsCard

/-- THE SECOND FORM's CARD OF 'culvertlaw6.StampOwns'. -/
def stampOwnsUptoCard : Claim7 := { stood := { row := stampOwnsUptoRow, standIns := [], harness := (true, "23d4dd5ed5a36c3de644d9cf5841711d5f9f074f30c5ede46b600aa949c806db"), looks := true }, kinds := [], alts := [], laidByText := true, laidKinds := [.data, .data, .data, .sentinel, .sentinel], laidTests := true, laidLooks := .later }
def StampOwnsUptoCardSaid : Prop := Claim7.holds Tryz.pinned (.plain (OpenSpec.upto stampOwnsSpec)) stampOwnsUptoCard
end Rows
end Go.Proofs.YtdpcmokemjfelaaGreatDoor

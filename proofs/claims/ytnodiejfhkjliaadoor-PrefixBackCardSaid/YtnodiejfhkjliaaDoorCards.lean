/-
  DERIVED. GIVEN WITH THE SEED: THE CARDS: each row of YtnodiejfhkjliaaDoorRows.lean that lists a variable, with what it lists TIED to the program's text (the seventh form; the later family's looks); each row that meets fmt, with fmt's text TOLD by the authors' own Lean function (tested against real Go, not proved from fmt's source: count such statements apart). THE CARD IS WHAT COUNTS. Prove the row's statement (the work); the ties are given (YtnodiejfhkjliaaDoorTie.lean); close each card by the builder's one call (the guide's Derived/Test/ToyasCard.lean, 'card_holds'). Laid BY PROGRAM, IN A SANDBOX (cutbox-door.mjs). By AI agents, Wed Nov 11 2026. No macro, syntax, notation, axiom, sorry.
-/
import Derived.Test.YtnodiejfhkjliaaDoorRows
import GoSem.ClaimSeven
namespace Go.Proofs.YtnodiejfhkjliaaDoor
namespace Rows

/-- THE TIED CARD OF 'culvertlaw7.PrefixValids'. -/
def prefixValidsCard : Claim7 := { stood := { row := prefixValidsRow, standIns := [], harness := (true, "b98541511e164a542c3059a39fb306be1d05c190fb9ba209e2c0861a4fb2a967"), looks := true }, kinds := [], alts := [], laidByText := true, laidKinds := [.data, .data, .data, .sentinel, .sentinel], laidTests := true, laidLooks := .later }
def PrefixValidsCardSaid : Prop := Claim7.holds Tryd.pinned (.plain (OpenSpec.ofChange prefixValidsSpec)) prefixValidsCard

/-- THE TIED CARD OF 'culvertlaw7.PrefixHolds'. -/
def prefixHoldsCard : Claim7 := { stood := { row := prefixHoldsRow, standIns := [], harness := (true, "b98541511e164a542c3059a39fb306be1d05c190fb9ba209e2c0861a4fb2a967"), looks := true }, kinds := [], alts := [], laidByText := true, laidKinds := [.data, .data, .data, .sentinel, .sentinel], laidTests := true, laidLooks := .later }
def PrefixHoldsCardSaid : Prop := Claim7.holds Tryd.pinned (.plain (OpenSpec.ofChange prefixHoldsSpec)) prefixHoldsCard

/-- THE TIED CARD OF 'culvertlaw7.PrefixBytes'. -/
def prefixBytesCard : Claim7 := { stood := { row := prefixBytesRow, standIns := [], harness := (true, "b98541511e164a542c3059a39fb306be1d05c190fb9ba209e2c0861a4fb2a967"), looks := true }, kinds := [], alts := [], laidByText := true, laidKinds := [.data, .data, .data, .sentinel, .sentinel], laidTests := true, laidLooks := .later }
def PrefixBytesCardSaid : Prop := Claim7.holds Tryd.pinned (.plain (OpenSpec.ofChange prefixBytesSpec)) prefixBytesCard

/-- THE TIED CARD OF 'culvertlaw7.PrefixTexts'. -/
def prefixTextsCard : Claim7 := { stood := { row := prefixTextsRow, standIns := [], harness := (true, "b98541511e164a542c3059a39fb306be1d05c190fb9ba209e2c0861a4fb2a967"), looks := true }, kinds := [], alts := [], laidByText := true, laidKinds := [.data, .data, .data, .sentinel, .sentinel], laidTests := true, laidLooks := .later }
def PrefixTextsCardSaid : Prop := Claim7.holds Tryd.pinned (.plain (OpenSpec.ofChange prefixTextsSpec)) prefixTextsCard

/-- THE TIED CARD OF 'culvertlaw7.PrefixReads'. -/
def prefixReadsCard : Claim7 := { stood := { row := prefixReadsRow, standIns := [], harness := (true, "b98541511e164a542c3059a39fb306be1d05c190fb9ba209e2c0861a4fb2a967"), looks := true }, kinds := [], alts := [], laidByText := true, laidKinds := [.data, .data, .data, .sentinel, .sentinel], laidTests := true, laidLooks := .later }
def PrefixReadsCardSaid : Prop := Claim7.holds Tryd.pinned (.plain (OpenSpec.ofChange prefixReadsSpec)) prefixReadsCard

/-- THE TIED CARD OF 'culvertlaw7.PrefixNests'. -/
def prefixNestsCard : Claim7 := { stood := { row := prefixNestsRow, standIns := [], harness := (true, "b98541511e164a542c3059a39fb306be1d05c190fb9ba209e2c0861a4fb2a967"), looks := true }, kinds := [], alts := [], laidByText := true, laidKinds := [.data, .data, .data, .sentinel, .sentinel], laidTests := true, laidLooks := .later }
def PrefixNestsCardSaid : Prop := Claim7.holds Tryd.pinned (.plain (OpenSpec.ofChange prefixNestsSpec)) prefixNestsCard

/-- THE TIED CARD OF 'culvertlaw7.PrefixCompares'. -/
def prefixComparesCard : Claim7 := { stood := { row := prefixComparesRow, standIns := [], harness := (true, "b98541511e164a542c3059a39fb306be1d05c190fb9ba209e2c0861a4fb2a967"), looks := true }, kinds := [], alts := [], laidByText := true, laidKinds := [.data, .data, .data, .sentinel, .sentinel], laidTests := true, laidLooks := .later }
def PrefixComparesCardSaid : Prop := Claim7.holds Tryd.pinned (.plain (OpenSpec.ofChange prefixComparesSpec)) prefixComparesCard

/-- THE TIED CARD OF 'culvertlaw7.PrefixOrder'. -/
def prefixOrderCard : Claim7 := { stood := { row := prefixOrderRow, standIns := [], harness := (true, "b98541511e164a542c3059a39fb306be1d05c190fb9ba209e2c0861a4fb2a967"), looks := true }, kinds := [], alts := [], laidByText := true, laidKinds := [.data, .data, .data, .sentinel, .sentinel], laidTests := true, laidLooks := .later }
def PrefixOrderCardSaid : Prop := Claim7.holds Tryd.pinned (.plain (OpenSpec.ofChange prefixOrderSpec)) prefixOrderCard

/-- THE TIED CARD OF 'culvertlaw7.PrefixGets'. -/
def prefixGetsCard : Claim7 := { stood := { row := prefixGetsRow, standIns := [], harness := (true, "b98541511e164a542c3059a39fb306be1d05c190fb9ba209e2c0861a4fb2a967"), looks := true }, kinds := [], alts := [], laidByText := true, laidKinds := [.data, .data, .data, .sentinel, .sentinel], laidTests := true, laidLooks := .later }
def PrefixGetsCardSaid : Prop := Claim7.holds Tryd.pinned (.plain (OpenSpec.ofChange prefixGetsSpec)) prefixGetsCard

/-- THE TIED CARD OF 'culvertlaw7.PrefixBack'. -/
def prefixBackCard : Claim7 := { stood := { row := prefixBackRow, standIns := [], harness := (true, "b98541511e164a542c3059a39fb306be1d05c190fb9ba209e2c0861a4fb2a967"), looks := true }, kinds := [], alts := [], laidByText := true, laidKinds := [.data, .data, .data, .sentinel, .sentinel], laidTests := true, laidLooks := .later }
def PrefixBackCardSaid : Prop := Claim7.holds Tryd.pinned (.plain (OpenSpec.ofChange prefixBackSpec)) prefixBackCard

/-- THE SECOND FORM's CARD OF 'culvertlaw7.PrefixValids'. -/
def prefixValidsUptoCard : Claim7 := { stood := { row := prefixValidsUptoRow, standIns := [], harness := (true, "b98541511e164a542c3059a39fb306be1d05c190fb9ba209e2c0861a4fb2a967"), looks := true }, kinds := [], alts := [], laidByText := true, laidKinds := [.data, .data, .data, .sentinel, .sentinel], laidTests := true, laidLooks := .later }
def PrefixValidsUptoCardSaid : Prop := Claim7.holds Tryd.pinned (.plain (OpenSpec.upto prefixValidsSpec)) prefixValidsUptoCard

/-- THE SECOND FORM's CARD OF 'culvertlaw7.PrefixHolds'. -/
def prefixHoldsUptoCard : Claim7 := { stood := { row := prefixHoldsUptoRow, standIns := [], harness := (true, "b98541511e164a542c3059a39fb306be1d05c190fb9ba209e2c0861a4fb2a967"), looks := true }, kinds := [], alts := [], laidByText := true, laidKinds := [.data, .data, .data, .sentinel, .sentinel], laidTests := true, laidLooks := .later }
def PrefixHoldsUptoCardSaid : Prop := Claim7.holds Tryd.pinned (.plain (OpenSpec.upto prefixHoldsSpec)) prefixHoldsUptoCard

/-- THE SECOND FORM's CARD OF 'culvertlaw7.PrefixBytes'. -/
def prefixBytesUptoCard : Claim7 := { stood := { row := prefixBytesUptoRow, standIns := [], harness := (true, "b98541511e164a542c3059a39fb306be1d05c190fb9ba209e2c0861a4fb2a967"), looks := true }, kinds := [], alts := [], laidByText := true, laidKinds := [.data, .data, .data, .sentinel, .sentinel], laidTests := true, laidLooks := .later }
def PrefixBytesUptoCardSaid : Prop := Claim7.holds Tryd.pinned (.plain (OpenSpec.upto prefixBytesSpec)) prefixBytesUptoCard

/-- THE SECOND FORM's CARD OF 'culvertlaw7.PrefixTexts'. -/
def prefixTextsUptoCard : Claim7 := { stood := { row := prefixTextsUptoRow, standIns := [], harness := (true, "b98541511e164a542c3059a39fb306be1d05c190fb9ba209e2c0861a4fb2a967"), looks := true }, kinds := [], alts := [], laidByText := true, laidKinds := [.data, .data, .data, .sentinel, .sentinel], laidTests := true, laidLooks := .later }
def PrefixTextsUptoCardSaid : Prop := Claim7.holds Tryd.pinned (.plain (OpenSpec.upto prefixTextsSpec)) prefixTextsUptoCard

/-- THE SECOND FORM's CARD OF 'culvertlaw7.PrefixReads'. -/
def prefixReadsUptoCard : Claim7 := { stood := { row := prefixReadsUptoRow, standIns := [], harness := (true, "b98541511e164a542c3059a39fb306be1d05c190fb9ba209e2c0861a4fb2a967"), looks := true }, kinds := [], alts := [], laidByText := true, laidKinds := [.data, .data, .data, .sentinel, .sentinel], laidTests := true, laidLooks := .later }
def PrefixReadsUptoCardSaid : Prop := Claim7.holds Tryd.pinned (.plain (OpenSpec.upto prefixReadsSpec)) prefixReadsUptoCard

/-- THE SECOND FORM's CARD OF 'culvertlaw7.PrefixNests'. -/
def prefixNestsUptoCard : Claim7 := { stood := { row := prefixNestsUptoRow, standIns := [], harness := (true, "b98541511e164a542c3059a39fb306be1d05c190fb9ba209e2c0861a4fb2a967"), looks := true }, kinds := [], alts := [], laidByText := true, laidKinds := [.data, .data, .data, .sentinel, .sentinel], laidTests := true, laidLooks := .later }
def PrefixNestsUptoCardSaid : Prop := Claim7.holds Tryd.pinned (.plain (OpenSpec.upto prefixNestsSpec)) prefixNestsUptoCard

/-- THE SECOND FORM's CARD OF 'culvertlaw7.PrefixCompares'. -/
def prefixComparesUptoCard : Claim7 := { stood := { row := prefixComparesUptoRow, standIns := [], harness := (true, "b98541511e164a542c3059a39fb306be1d05c190fb9ba209e2c0861a4fb2a967"), looks := true }, kinds := [], alts := [], laidByText := true, laidKinds := [.data, .data, .data, .sentinel, .sentinel], laidTests := true, laidLooks := .later }
def PrefixComparesUptoCardSaid : Prop := Claim7.holds Tryd.pinned (.plain (OpenSpec.upto prefixComparesSpec)) prefixComparesUptoCard

/-- THE SECOND FORM's CARD OF 'culvertlaw7.PrefixOrder'. -/
def prefixOrderUptoCard : Claim7 := { stood := { row := prefixOrderUptoRow, standIns := [], harness := (true, "b98541511e164a542c3059a39fb306be1d05c190fb9ba209e2c0861a4fb2a967"), looks := true }, kinds := [], alts := [], laidByText := true, laidKinds := [.data, .data, .data, .sentinel, .sentinel], laidTests := true, laidLooks := .later }
def PrefixOrderUptoCardSaid : Prop := Claim7.holds Tryd.pinned (.plain (OpenSpec.upto prefixOrderSpec)) prefixOrderUptoCard

/-- THE SECOND FORM's CARD OF 'culvertlaw7.PrefixGets'. -/
def prefixGetsUptoCard : Claim7 := { stood := { row := prefixGetsUptoRow, standIns := [], harness := (true, "b98541511e164a542c3059a39fb306be1d05c190fb9ba209e2c0861a4fb2a967"), looks := true }, kinds := [], alts := [], laidByText := true, laidKinds := [.data, .data, .data, .sentinel, .sentinel], laidTests := true, laidLooks := .later }
def PrefixGetsUptoCardSaid : Prop := Claim7.holds Tryd.pinned (.plain (OpenSpec.upto prefixGetsSpec)) prefixGetsUptoCard

/-- THE SECOND FORM's CARD OF 'culvertlaw7.PrefixBack'. -/
def prefixBackUptoCard : Claim7 := { stood := { row := prefixBackUptoRow, standIns := [], harness := (true, "b98541511e164a542c3059a39fb306be1d05c190fb9ba209e2c0861a4fb2a967"), looks := true }, kinds := [], alts := [], laidByText := true, laidKinds := [.data, .data, .data, .sentinel, .sentinel], laidTests := true, laidLooks := .later }
def PrefixBackUptoCardSaid : Prop := Claim7.holds Tryd.pinned (.plain (OpenSpec.upto prefixBackSpec)) prefixBackUptoCard
end Rows
end Go.Proofs.YtnodiejfhkjliaaDoor

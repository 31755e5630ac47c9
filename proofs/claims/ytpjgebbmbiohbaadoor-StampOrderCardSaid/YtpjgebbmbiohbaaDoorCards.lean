/-
  DERIVED. GIVEN WITH THE SEED: THE CARDS: each row of YtpjgebbmbiohbaaDoorRows.lean that lists a variable, with what it lists TIED to the program's text (the seventh form; the later family's looks); each row that meets fmt, with fmt's text TOLD by the authors' own Lean function (tested against real Go, not proved from fmt's source: count such statements apart). THE CARD IS WHAT COUNTS. Prove the row's statement (the work); the ties are given (YtpjgebbmbiohbaaDoorTie.lean); close each card by the builder's one call (the guide's Derived/Test/ToyasCard.lean, 'card_holds'). Laid BY PROGRAM, IN A SANDBOX (cutbox-door.mjs). By AI agents, Wed Nov 11 2026. No macro, syntax, notation, axiom, sorry.
-/
import Derived.Test.YtpjgebbmbiohbaaDoorRows
import GoSem.ClaimSeven
namespace Go.Proofs.YtpjgebbmbiohbaaDoor
namespace Rows

/-- THE TIED CARD OF 'culvertlaw6.StampValids'. -/
def stampValidsCard : Claim7 := { stood := { row := stampValidsRow, standIns := [], harness := (true, "aa2bc32e75501850b67afb806d9c52f83a309960c89aec69c756a13fae6896ad"), looks := true }, kinds := [], alts := [], laidByText := true, laidKinds := [.data, .data, .data, .sentinel, .sentinel], laidTests := true, laidLooks := .later }
def StampValidsCardSaid : Prop := Claim7.holds Tryd.pinned (.plain (OpenSpec.ofChange stampValidsSpec)) stampValidsCard

/-- THE TIED CARD OF 'culvertlaw6.StampLess'. -/
def stampLessCard : Claim7 := { stood := { row := stampLessRow, standIns := [], harness := (true, "aa2bc32e75501850b67afb806d9c52f83a309960c89aec69c756a13fae6896ad"), looks := true }, kinds := [], alts := [], laidByText := true, laidKinds := [.data, .data, .data, .sentinel, .sentinel], laidTests := true, laidLooks := .later }
def StampLessCardSaid : Prop := Claim7.holds Tryd.pinned (.plain (OpenSpec.ofChange stampLessSpec)) stampLessCard

/-- THE TIED CARD OF 'culvertlaw6.StampNexts'. -/
def stampNextsCard : Claim7 := { stood := { row := stampNextsRow, standIns := [], harness := (true, "aa2bc32e75501850b67afb806d9c52f83a309960c89aec69c756a13fae6896ad"), looks := true }, kinds := [], alts := [], laidByText := true, laidKinds := [.data, .data, .data, .sentinel, .sentinel], laidTests := true, laidLooks := .later }
def StampNextsCardSaid : Prop := Claim7.holds Tryd.pinned (.plain (OpenSpec.ofChange stampNextsSpec)) stampNextsCard

/-- THE TIED CARD OF 'culvertlaw6.StampPuts'. -/
def stampPutsCard : Claim7 := { stood := { row := stampPutsRow, standIns := [], harness := (true, "aa2bc32e75501850b67afb806d9c52f83a309960c89aec69c756a13fae6896ad"), looks := true }, kinds := [], alts := [], laidByText := true, laidKinds := [.data, .data, .data, .sentinel, .sentinel], laidTests := true, laidLooks := .later }
def StampPutsCardSaid : Prop := Claim7.holds Tryd.pinned (.plain (OpenSpec.ofChange stampPutsSpec)) stampPutsCard

/-- THE TIED CARD OF 'culvertlaw6.StampGets'. -/
def stampGetsCard : Claim7 := { stood := { row := stampGetsRow, standIns := [], harness := (true, "aa2bc32e75501850b67afb806d9c52f83a309960c89aec69c756a13fae6896ad"), looks := true }, kinds := [], alts := [], laidByText := true, laidKinds := [.data, .data, .data, .sentinel, .sentinel], laidTests := true, laidLooks := .later }
def StampGetsCardSaid : Prop := Claim7.holds Tryd.pinned (.plain (OpenSpec.ofChange stampGetsSpec)) stampGetsCard

/-- THE TIED CARD OF 'culvertlaw6.StampParses'. -/
def stampParsesCard : Claim7 := { stood := { row := stampParsesRow, standIns := [], harness := (true, "aa2bc32e75501850b67afb806d9c52f83a309960c89aec69c756a13fae6896ad"), looks := true }, kinds := [], alts := [], laidByText := true, laidKinds := [.data, .data, .data, .sentinel, .sentinel], laidTests := true, laidLooks := .later }
def StampParsesCardSaid : Prop := Claim7.holds Tryd.pinned (.plain (OpenSpec.ofChange stampParsesSpec)) stampParsesCard

/-- THE TIED CARD OF 'culvertlaw6.StampOrder'. -/
def stampOrderCard : Claim7 := { stood := { row := stampOrderRow, standIns := [], harness := (true, "aa2bc32e75501850b67afb806d9c52f83a309960c89aec69c756a13fae6896ad"), looks := true }, kinds := [], alts := [], laidByText := true, laidKinds := [.data, .data, .data, .sentinel, .sentinel], laidTests := true, laidLooks := .later }
def StampOrderCardSaid : Prop := Claim7.holds Tryd.pinned (.plain (OpenSpec.ofChange stampOrderSpec)) stampOrderCard

/-- THE TIED CARD OF 'culvertlaw6.StampSteps'. -/
def stampStepsCard : Claim7 := { stood := { row := stampStepsRow, standIns := [], harness := (true, "aa2bc32e75501850b67afb806d9c52f83a309960c89aec69c756a13fae6896ad"), looks := true }, kinds := [], alts := [], laidByText := true, laidKinds := [.data, .data, .data, .sentinel, .sentinel], laidTests := true, laidLooks := .later }
def StampStepsCardSaid : Prop := Claim7.holds Tryd.pinned (.plain (OpenSpec.ofChange stampStepsSpec)) stampStepsCard

/-- THE TIED CARD OF 'culvertlaw6.StampOneForm'. -/
def stampOneFormCard : Claim7 := { stood := { row := stampOneFormRow, standIns := [], harness := (true, "aa2bc32e75501850b67afb806d9c52f83a309960c89aec69c756a13fae6896ad"), looks := true }, kinds := [], alts := [], laidByText := true, laidKinds := [.data, .data, .data, .sentinel, .sentinel], laidTests := true, laidLooks := .later }
def StampOneFormCardSaid : Prop := Claim7.holds Tryd.pinned (.plain (OpenSpec.ofChange stampOneFormSpec)) stampOneFormCard

/-- THE TIED CARD OF 'culvertlaw6.StampPlace'. -/
def stampPlaceCard : Claim7 := { stood := { row := stampPlaceRow, standIns := [], harness := (true, "aa2bc32e75501850b67afb806d9c52f83a309960c89aec69c756a13fae6896ad"), looks := true }, kinds := [], alts := [], laidByText := true, laidKinds := [.data, .data, .data, .sentinel, .sentinel], laidTests := true, laidLooks := .later }
def StampPlaceCardSaid : Prop := Claim7.holds Tryd.pinned (.plain (OpenSpec.ofChange stampPlaceSpec)) stampPlaceCard

/-- THE SECOND FORM's CARD OF 'culvertlaw6.StampValids'. -/
def stampValidsUptoCard : Claim7 := { stood := { row := stampValidsUptoRow, standIns := [], harness := (true, "aa2bc32e75501850b67afb806d9c52f83a309960c89aec69c756a13fae6896ad"), looks := true }, kinds := [], alts := [], laidByText := true, laidKinds := [.data, .data, .data, .sentinel, .sentinel], laidTests := true, laidLooks := .later }
def StampValidsUptoCardSaid : Prop := Claim7.holds Tryd.pinned (.plain (OpenSpec.upto stampValidsSpec)) stampValidsUptoCard

/-- THE SECOND FORM's CARD OF 'culvertlaw6.StampLess'. -/
def stampLessUptoCard : Claim7 := { stood := { row := stampLessUptoRow, standIns := [], harness := (true, "aa2bc32e75501850b67afb806d9c52f83a309960c89aec69c756a13fae6896ad"), looks := true }, kinds := [], alts := [], laidByText := true, laidKinds := [.data, .data, .data, .sentinel, .sentinel], laidTests := true, laidLooks := .later }
def StampLessUptoCardSaid : Prop := Claim7.holds Tryd.pinned (.plain (OpenSpec.upto stampLessSpec)) stampLessUptoCard

/-- THE SECOND FORM's CARD OF 'culvertlaw6.StampNexts'. -/
def stampNextsUptoCard : Claim7 := { stood := { row := stampNextsUptoRow, standIns := [], harness := (true, "aa2bc32e75501850b67afb806d9c52f83a309960c89aec69c756a13fae6896ad"), looks := true }, kinds := [], alts := [], laidByText := true, laidKinds := [.data, .data, .data, .sentinel, .sentinel], laidTests := true, laidLooks := .later }
def StampNextsUptoCardSaid : Prop := Claim7.holds Tryd.pinned (.plain (OpenSpec.upto stampNextsSpec)) stampNextsUptoCard

/-- THE SECOND FORM's CARD OF 'culvertlaw6.StampPuts'. -/
def stampPutsUptoCard : Claim7 := { stood := { row := stampPutsUptoRow, standIns := [], harness := (true, "aa2bc32e75501850b67afb806d9c52f83a309960c89aec69c756a13fae6896ad"), looks := true }, kinds := [], alts := [], laidByText := true, laidKinds := [.data, .data, .data, .sentinel, .sentinel], laidTests := true, laidLooks := .later }
def StampPutsUptoCardSaid : Prop := Claim7.holds Tryd.pinned (.plain (OpenSpec.upto stampPutsSpec)) stampPutsUptoCard

/-- THE SECOND FORM's CARD OF 'culvertlaw6.StampGets'. -/
def stampGetsUptoCard : Claim7 := { stood := { row := stampGetsUptoRow, standIns := [], harness := (true, "aa2bc32e75501850b67afb806d9c52f83a309960c89aec69c756a13fae6896ad"), looks := true }, kinds := [], alts := [], laidByText := true, laidKinds := [.data, .data, .data, .sentinel, .sentinel], laidTests := true, laidLooks := .later }
def StampGetsUptoCardSaid : Prop := Claim7.holds Tryd.pinned (.plain (OpenSpec.upto stampGetsSpec)) stampGetsUptoCard

/-- THE SECOND FORM's CARD OF 'culvertlaw6.StampParses'. -/
def stampParsesUptoCard : Claim7 := { stood := { row := stampParsesUptoRow, standIns := [], harness := (true, "aa2bc32e75501850b67afb806d9c52f83a309960c89aec69c756a13fae6896ad"), looks := true }, kinds := [], alts := [], laidByText := true, laidKinds := [.data, .data, .data, .sentinel, .sentinel], laidTests := true, laidLooks := .later }
def StampParsesUptoCardSaid : Prop := Claim7.holds Tryd.pinned (.plain (OpenSpec.upto stampParsesSpec)) stampParsesUptoCard

/-- THE SECOND FORM's CARD OF 'culvertlaw6.StampOrder'. -/
def stampOrderUptoCard : Claim7 := { stood := { row := stampOrderUptoRow, standIns := [], harness := (true, "aa2bc32e75501850b67afb806d9c52f83a309960c89aec69c756a13fae6896ad"), looks := true }, kinds := [], alts := [], laidByText := true, laidKinds := [.data, .data, .data, .sentinel, .sentinel], laidTests := true, laidLooks := .later }
def StampOrderUptoCardSaid : Prop := Claim7.holds Tryd.pinned (.plain (OpenSpec.upto stampOrderSpec)) stampOrderUptoCard

/-- THE SECOND FORM's CARD OF 'culvertlaw6.StampSteps'. -/
def stampStepsUptoCard : Claim7 := { stood := { row := stampStepsUptoRow, standIns := [], harness := (true, "aa2bc32e75501850b67afb806d9c52f83a309960c89aec69c756a13fae6896ad"), looks := true }, kinds := [], alts := [], laidByText := true, laidKinds := [.data, .data, .data, .sentinel, .sentinel], laidTests := true, laidLooks := .later }
def StampStepsUptoCardSaid : Prop := Claim7.holds Tryd.pinned (.plain (OpenSpec.upto stampStepsSpec)) stampStepsUptoCard

/-- THE SECOND FORM's CARD OF 'culvertlaw6.StampOneForm'. -/
def stampOneFormUptoCard : Claim7 := { stood := { row := stampOneFormUptoRow, standIns := [], harness := (true, "aa2bc32e75501850b67afb806d9c52f83a309960c89aec69c756a13fae6896ad"), looks := true }, kinds := [], alts := [], laidByText := true, laidKinds := [.data, .data, .data, .sentinel, .sentinel], laidTests := true, laidLooks := .later }
def StampOneFormUptoCardSaid : Prop := Claim7.holds Tryd.pinned (.plain (OpenSpec.upto stampOneFormSpec)) stampOneFormUptoCard

/-- THE SECOND FORM's CARD OF 'culvertlaw6.StampPlace'. -/
def stampPlaceUptoCard : Claim7 := { stood := { row := stampPlaceUptoRow, standIns := [], harness := (true, "aa2bc32e75501850b67afb806d9c52f83a309960c89aec69c756a13fae6896ad"), looks := true }, kinds := [], alts := [], laidByText := true, laidKinds := [.data, .data, .data, .sentinel, .sentinel], laidTests := true, laidLooks := .later }
def StampPlaceUptoCardSaid : Prop := Claim7.holds Tryd.pinned (.plain (OpenSpec.upto stampPlaceSpec)) stampPlaceUptoCard
end Rows
end Go.Proofs.YtpjgebbmbiohbaaDoor

/-
  DERIVED. GIVEN WITH THE SEED: THE CARDS: each row of YtpkmekdpmkfcdaaGreatDoorRows.lean that lists a variable, with what it lists TIED to the program's text (the seventh form; the later family's looks); each row that meets fmt, with fmt's text TOLD by the authors' own Lean function (tested against real Go, not proved from fmt's source: count such statements apart). THE CARD IS WHAT COUNTS. Prove the row's statement (the work); the ties are given (YtpkmekdpmkfcdaaGreatDoorTie.lean); close each card by the builder's one call (the guide's Derived/Test/ToyasCard.lean, 'card_holds'). Laid BY PROGRAM, IN A SANDBOX (cutbox-door.mjs). By AI agents, Wed Nov 11 2026. No macro, syntax, notation, axiom, sorry.
-/
import Derived.Test.YtpkmekdpmkfcdaaGreatDoorRows
import GoSem.ClaimSeven
namespace Go.Proofs.YtpkmekdpmkfcdaaGreatDoor
namespace Rows

/-- THE TIED CARD OF 'culvertlaw22.ScriptChanges'. -/
def scriptChangesCard : Claim7 := { stood := { row := scriptChangesRow, standIns := [], harness := (true, "e3e39dc810804106a02a90f92c2d706d0a927d3f2e5e45e2ac10ee22b7e9874d"), looks := true }, kinds := [], alts := [], laidByText := true, laidKinds := [.data, .data, .data, .sentinel, .sentinel, .widerDeep, .widerDeep], laidTests := true, laidLooks := .later }
def ScriptChangesCardSaid : Prop := Claim7.holds Tryz.pinned (.plain (OpenSpec.ofChange scriptChangesSpec)) scriptChangesCard

/-- THE TIED CARD OF 'culvertlaw22.ScriptOwn'. -/
def scriptOwnCard : Claim7 := { stood := { row := scriptOwnRow, standIns := [], harness := (true, "e3e39dc810804106a02a90f92c2d706d0a927d3f2e5e45e2ac10ee22b7e9874d"), looks := true }, kinds := [], alts := [], laidByText := true, laidKinds := [.data, .data, .data, .sentinel, .sentinel, .widerDeep, .widerDeep], laidTests := true, laidLooks := .later }
def ScriptOwnCardSaid : Prop := Claim7.holds Tryz.pinned (.plain (OpenSpec.ofChange scriptOwnSpec)) scriptOwnCard

/-- THE TIED CARD OF 'culvertlaw22.ScriptParses'. -/
def scriptParsesCard : Claim7 := { stood := { row := scriptParsesRow, standIns := [], harness := (true, "e3e39dc810804106a02a90f92c2d706d0a927d3f2e5e45e2ac10ee22b7e9874d"), looks := true }, kinds := [], alts := [], laidByText := true, laidKinds := [.data, .data, .data, .sentinel, .sentinel, .widerDeep, .widerDeep], laidTests := true, laidLooks := .later }
def ScriptParsesCardSaid : Prop := Claim7.holds Tryz.pinned (.plain (OpenSpec.ofChange scriptParsesSpec)) scriptParsesCard

/-- THE TIED CARD OF 'culvertlaw22.ScriptRound'. -/
def scriptRoundCard : Claim7 := { stood := { row := scriptRoundRow, standIns := [], harness := (true, "e3e39dc810804106a02a90f92c2d706d0a927d3f2e5e45e2ac10ee22b7e9874d"), looks := true }, kinds := [], alts := [], laidByText := true, laidKinds := [.data, .data, .data, .sentinel, .sentinel, .widerDeep, .widerDeep], laidTests := true, laidLooks := .later }
def ScriptRoundCardSaid : Prop := Claim7.holds Tryz.pinned (.plain (OpenSpec.ofChange scriptRoundSpec)) scriptRoundCard

/-- THE TIED CARD OF 'culvertlaw22.ScriptCanon'. -/
def scriptCanonCard : Claim7 := { stood := { row := scriptCanonRow, standIns := [], harness := (true, "e3e39dc810804106a02a90f92c2d706d0a927d3f2e5e45e2ac10ee22b7e9874d"), looks := true }, kinds := [], alts := [], laidByText := true, laidKinds := [.data, .data, .data, .sentinel, .sentinel, .widerDeep, .widerDeep], laidTests := true, laidLooks := .later }
def ScriptCanonCardSaid : Prop := Claim7.holds Tryz.pinned (.plain (OpenSpec.ofChange scriptCanonSpec)) scriptCanonCard

/-- THE TIED CARD OF 'culvertlaw22.ScriptNoise'. -/
def scriptNoiseCard : Claim7 := { stood := { row := scriptNoiseRow, standIns := [], harness := (true, "e3e39dc810804106a02a90f92c2d706d0a927d3f2e5e45e2ac10ee22b7e9874d"), looks := true }, kinds := [], alts := [], laidByText := true, laidKinds := [.data, .data, .data, .sentinel, .sentinel, .widerDeep, .widerDeep], laidTests := true, laidLooks := .later }
def ScriptNoiseCardSaid : Prop := Claim7.holds Tryz.pinned (.plain (OpenSpec.ofChange scriptNoiseSpec)) scriptNoiseCard

/-- THE TIED CARD OF 'culvertlaw22.ScriptFault'. -/
def scriptFaultCard : Claim7 := { stood := { row := scriptFaultRow, standIns := [], harness := (true, "e3e39dc810804106a02a90f92c2d706d0a927d3f2e5e45e2ac10ee22b7e9874d"), looks := true }, kinds := [], alts := [], laidByText := true, laidKinds := [.data, .data, .data, .sentinel, .sentinel, .widerDeep, .widerDeep], laidTests := true, laidLooks := .later }
def ScriptFaultCardSaid : Prop := Claim7.holds Tryz.pinned (.plain (OpenSpec.ofChange scriptFaultSpec)) scriptFaultCard

/-- THE SECOND FORM's CARD OF 'culvertlaw22.ScriptChanges'. -/
def scriptChangesUptoCard : Claim7 := { stood := { row := scriptChangesUptoRow, standIns := [], harness := (true, "e3e39dc810804106a02a90f92c2d706d0a927d3f2e5e45e2ac10ee22b7e9874d"), looks := true }, kinds := [], alts := [], laidByText := true, laidKinds := [.data, .data, .data, .sentinel, .sentinel, .widerDeep, .widerDeep], laidTests := true, laidLooks := .later }
def ScriptChangesUptoCardSaid : Prop := Claim7.holds Tryz.pinned (.plain (OpenSpec.upto scriptChangesSpec)) scriptChangesUptoCard

/-- THE SECOND FORM's CARD OF 'culvertlaw22.ScriptOwn'. -/
def scriptOwnUptoCard : Claim7 := { stood := { row := scriptOwnUptoRow, standIns := [], harness := (true, "e3e39dc810804106a02a90f92c2d706d0a927d3f2e5e45e2ac10ee22b7e9874d"), looks := true }, kinds := [], alts := [], laidByText := true, laidKinds := [.data, .data, .data, .sentinel, .sentinel, .widerDeep, .widerDeep], laidTests := true, laidLooks := .later }
def ScriptOwnUptoCardSaid : Prop := Claim7.holds Tryz.pinned (.plain (OpenSpec.upto scriptOwnSpec)) scriptOwnUptoCard

/-- THE SECOND FORM's CARD OF 'culvertlaw22.ScriptParses'. -/
def scriptParsesUptoCard : Claim7 := { stood := { row := scriptParsesUptoRow, standIns := [], harness := (true, "e3e39dc810804106a02a90f92c2d706d0a927d3f2e5e45e2ac10ee22b7e9874d"), looks := true }, kinds := [], alts := [], laidByText := true, laidKinds := [.data, .data, .data, .sentinel, .sentinel, .widerDeep, .widerDeep], laidTests := true, laidLooks := .later }
def ScriptParsesUptoCardSaid : Prop := Claim7.holds Tryz.pinned (.plain (OpenSpec.upto scriptParsesSpec)) scriptParsesUptoCard

/-- THE SECOND FORM's CARD OF 'culvertlaw22.ScriptRound'. -/
def scriptRoundUptoCard : Claim7 := { stood := { row := scriptRoundUptoRow, standIns := [], harness := (true, "e3e39dc810804106a02a90f92c2d706d0a927d3f2e5e45e2ac10ee22b7e9874d"), looks := true }, kinds := [], alts := [], laidByText := true, laidKinds := [.data, .data, .data, .sentinel, .sentinel, .widerDeep, .widerDeep], laidTests := true, laidLooks := .later }
def ScriptRoundUptoCardSaid : Prop := Claim7.holds Tryz.pinned (.plain (OpenSpec.upto scriptRoundSpec)) scriptRoundUptoCard

/-- THE SECOND FORM's CARD OF 'culvertlaw22.ScriptCanon'. -/
def scriptCanonUptoCard : Claim7 := { stood := { row := scriptCanonUptoRow, standIns := [], harness := (true, "e3e39dc810804106a02a90f92c2d706d0a927d3f2e5e45e2ac10ee22b7e9874d"), looks := true }, kinds := [], alts := [], laidByText := true, laidKinds := [.data, .data, .data, .sentinel, .sentinel, .widerDeep, .widerDeep], laidTests := true, laidLooks := .later }
def ScriptCanonUptoCardSaid : Prop := Claim7.holds Tryz.pinned (.plain (OpenSpec.upto scriptCanonSpec)) scriptCanonUptoCard

/-- THE SECOND FORM's CARD OF 'culvertlaw22.ScriptNoise'. -/
def scriptNoiseUptoCard : Claim7 := { stood := { row := scriptNoiseUptoRow, standIns := [], harness := (true, "e3e39dc810804106a02a90f92c2d706d0a927d3f2e5e45e2ac10ee22b7e9874d"), looks := true }, kinds := [], alts := [], laidByText := true, laidKinds := [.data, .data, .data, .sentinel, .sentinel, .widerDeep, .widerDeep], laidTests := true, laidLooks := .later }
def ScriptNoiseUptoCardSaid : Prop := Claim7.holds Tryz.pinned (.plain (OpenSpec.upto scriptNoiseSpec)) scriptNoiseUptoCard

/-- THE SECOND FORM's CARD OF 'culvertlaw22.ScriptFault'. -/
def scriptFaultUptoCard : Claim7 := { stood := { row := scriptFaultUptoRow, standIns := [], harness := (true, "e3e39dc810804106a02a90f92c2d706d0a927d3f2e5e45e2ac10ee22b7e9874d"), looks := true }, kinds := [], alts := [], laidByText := true, laidKinds := [.data, .data, .data, .sentinel, .sentinel, .widerDeep, .widerDeep], laidTests := true, laidLooks := .later }
def ScriptFaultUptoCardSaid : Prop := Claim7.holds Tryz.pinned (.plain (OpenSpec.upto scriptFaultSpec)) scriptFaultUptoCard
end Rows
end Go.Proofs.YtpkmekdpmkfcdaaGreatDoor

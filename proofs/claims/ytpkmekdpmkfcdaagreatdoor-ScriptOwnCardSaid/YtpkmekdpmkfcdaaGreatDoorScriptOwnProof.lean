/-
 PROVED: culvertlaw22.ScriptOwn returns true: what Parse and ParseChanges answer is new memory, each time. Condition: the listed variables of Go's library hold what their initialisers lay (tied to the program's text by the card); of the arguments nothing is asked.
-/
import Derived.Test.YtpkmekdpmkfcdaaGreatDoorScriptOwnF
import Derived.Test.YtpkmekdpmkfcdaaGreatDoorScriptOwnA
namespace Go.Proofs.YtpkmekdpmkfcdaaGreatDoor.scriptOwnP
open Go.ChangeShapes Go.WideShapes Go.ChangeAt Go.RowKit Go.Joins Go.Proofs.YtpkmekdpmkfcdaaGreatDoor.Fr Go.Proofs.YtpkmekdpmkfcdaaGreatDoor.En Go.Proofs.YtpkmekdpmkfcdaaGreatDoor.Wd
open Go.ChangeMaps (open_string shut_string)
set_option linter.unusedVariables false
theorem over : Rows.ScriptOwnSaid :=
 OpenClaim.holds_of_wide 4 Tryz.f4 rfl rfl rfl rfl rfl rfl rfl ⟨rfl,rfl,rfl,rfl,rfl⟩ rfl rfl rfl rfl rfl (by kernel_rfl) Tryz.func4 facts inst wrapped
  (fun os started H enc _ => lifted os started H enc)
theorem proved : Rows.ScriptOwnCardSaid :=
 Claim7.holds_tied_plain_at .later [] _ _ _ _
  over (fun _ h => by cases h) (by kernel_rfl) (fun _ h => by cases h) scriptOwn_row_tie rfl ⟨rfl,rfl⟩ (by kernel_rfl) rfl
  (fun f fn hf hfn => by
   obtain rfl : f = 4 := Option.some.inj ((show Tryz.prog.funcNamed "culvert/culvertlaw22.ScriptOwn" = some 4 by kernel_rfl).symm.trans hf) |>.symm
   obtain rfl : fn = Tryz.f4 := (Option.some.inj (Tryz.func4.symm.trans hfn)).symm
   exact ⟨by kernel_rfl,fun j t ht => by
    rw [Tryz.params4] at ht
    have hm : t ∈ [37,37] := by simpa using Array.mem_of_getElem? ht
    have hall : ([37,37].all fun u => !Tryz.prog.wantsStandIn u) = true := by kernel_rfl
    exact (show Tryz.prog.wantsStandIn t = false by simpa using List.all_eq_true.1 hall t hm)⟩)
  (by kernel_rfl)
#print axioms proved
end Go.Proofs.YtpkmekdpmkfcdaaGreatDoor.scriptOwnP

/-
  PROVED: culvertlaw22.ScriptChanges returns true where the arguments are of bulk at most 1048576: texts of changes, and lists of them, are read and written alike by the program and by the reference. Condition: that bulk, and the listed variables hold what their initialisers lay (tied to the program's text by the card).
-/
import Derived.Test.YtpkmekdpmkfcdaaGreatDoorScriptChangesUptoA
namespace Go.Proofs.YtpkmekdpmkfcdaaGreatDoor.scriptChangesUptoP
open Go.ChangeShapes Go.WideShapes Go.ChangeAt Go.RowKit Go.Joins Go.Proofs.YtpkmekdpmkfcdaaGreatDoor.Fr Go.Proofs.YtpkmekdpmkfcdaaGreatDoor.En Go.Proofs.YtpkmekdpmkfcdaaGreatDoor.Wd
open Go.ChangeMaps (open_string shut_string)
set_option linter.unusedVariables false

theorem facts : joinedFacts Tryz.prog 3 Tryz.f3 (Rows.OpenSpec.upto Rows.scriptChangesSpec).bare Rows.scriptChangesUptoRow = true := by kernel_rfl
theorem step (os : Os) (started : os.Started) (H : Type) (enc : TypeId × Value → H) (F : Stop.Interp) :
    ReturnsInHanded Rows.scriptChangesUptoRow.assume Tryz.checked os 3 .any (Rows.scriptChangesUptoRow.pre enc Tryz.prog Tryz.f3 (Rows.OpenSpec.upto Rows.scriptChangesSpec)) (((Rows.OpenSpec.upto Rows.scriptChangesSpec).at F).post enc Tryz.prog Tryz.f3 Rows.scriptChangesUptoRow.apart Rows.scriptChangesUptoRow.fresh Rows.scriptChangesUptoRow.handsOn Rows.scriptChangesUptoRow.again) := by
  rw [OpenClaim.pre_eq_preRow]; exact lifted os started H enc F
theorem over : Rows.ScriptChangesUptoSaid :=
  OpenClaim.holds_of_cond 3 Tryz.f3 rfl rfl rfl rfl rfl rfl rfl ⟨rfl, rfl, rfl, rfl, rfl⟩ rfl rfl rfl rfl rfl (by kernel_rfl) Tryz.func3 facts
    (of_decide_eq_true (by kernel_rfl)) (by unfold Func.isWrapper; first | (rw [if_pos (by decide +kernel)]; kernel_rfl) | (rw [if_neg (by decide +kernel)]; exact ⟨rfl, rfl⟩))
    (fun os started H enc _ F => step os started H enc F)

theorem proved : Rows.ScriptChangesUptoCardSaid :=
  Claim7.holds_tied_plain_at .later [] _ _ _ _
    over (fun _ h => by cases h) (by kernel_rfl) (fun _ h => by cases h) scriptChangesUpto_row_tie rfl ⟨rfl, rfl⟩ (by kernel_rfl) rfl
    (fun f fn hf hfn => by
      obtain rfl : f = 3 := Option.some.inj ((show Tryz.prog.funcNamed "culvert/culvertlaw22.ScriptChanges" = some 3 by kernel_rfl).symm.trans hf) |>.symm
      obtain rfl : fn = Tryz.f3 := (Option.some.inj (Tryz.func3.symm.trans hfn)).symm
      exact ⟨by kernel_rfl, fun j t ht => by
        rw [Tryz.params3] at ht
        have hm : t ∈ [9, 22] := by simpa using Array.mem_of_getElem? ht
        have hall : ([9, 22].all fun u => !Tryz.prog.wantsStandIn u) = true := by kernel_rfl
        exact (show Tryz.prog.wantsStandIn t = false by simpa using List.all_eq_true.1 hall t hm)⟩)
    (by kernel_rfl)
#print axioms proved
end Go.Proofs.YtpkmekdpmkfcdaaGreatDoor.scriptChangesUptoP

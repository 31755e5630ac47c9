/-
  PROVED: culvertlaw22.ScriptRound returns true where the arguments are of bulk at most 1048576: what Print writes Parse reads. Condition: that bulk, and the listed variables hold what their initialisers lay (tied to the program's text by the card).
-/
import Derived.Test.YtpkmekdpmkfcdaaGreatDoorScriptRoundUptoA
namespace Go.Proofs.YtpkmekdpmkfcdaaGreatDoor.scriptRoundUptoP
open Go.ChangeShapes Go.WideShapes Go.ChangeAt Go.RowKit Go.Joins Go.Proofs.YtpkmekdpmkfcdaaGreatDoor.Fr Go.Proofs.YtpkmekdpmkfcdaaGreatDoor.En Go.Proofs.YtpkmekdpmkfcdaaGreatDoor.Wd
open Go.ChangeMaps (open_string shut_string)
set_option linter.unusedVariables false

theorem facts : joinedFacts Tryz.prog 6 Tryz.f6 (Rows.OpenSpec.upto Rows.scriptRoundSpec).bare Rows.scriptRoundUptoRow = true := by kernel_rfl
theorem step (os : Os) (started : os.Started) (H : Type) (enc : TypeId × Value → H) (F : Stop.Interp) :
    ReturnsInHanded Rows.scriptRoundUptoRow.assume Tryz.checked os 6 .any (Rows.scriptRoundUptoRow.pre enc Tryz.prog Tryz.f6 (Rows.OpenSpec.upto Rows.scriptRoundSpec)) (((Rows.OpenSpec.upto Rows.scriptRoundSpec).at F).post enc Tryz.prog Tryz.f6 Rows.scriptRoundUptoRow.apart Rows.scriptRoundUptoRow.fresh Rows.scriptRoundUptoRow.handsOn Rows.scriptRoundUptoRow.again) := by
  rw [OpenClaim.pre_eq_preRow]; exact lifted os started H enc F
theorem over : Rows.ScriptRoundUptoSaid :=
  OpenClaim.holds_of_cond 6 Tryz.f6 rfl rfl rfl rfl rfl rfl rfl ⟨rfl, rfl, rfl, rfl, rfl⟩ rfl rfl rfl rfl rfl (by kernel_rfl) Tryz.func6 facts
    (of_decide_eq_true (by kernel_rfl)) (by unfold Func.isWrapper; first | (rw [if_pos (by decide +kernel)]; kernel_rfl) | (rw [if_neg (by decide +kernel)]; exact ⟨rfl, rfl⟩))
    (fun os started H enc _ F => step os started H enc F)

theorem proved : Rows.ScriptRoundUptoCardSaid :=
  Claim7.holds_tied_plain_at .later [] _ _ _ _
    over (fun _ h => by cases h) (by kernel_rfl) (fun _ h => by cases h) scriptRoundUpto_row_tie rfl ⟨rfl, rfl⟩ (by kernel_rfl) rfl
    (fun f fn hf hfn => by
      obtain rfl : f = 6 := Option.some.inj ((show Tryz.prog.funcNamed "culvert/culvertlaw22.ScriptRound" = some 6 by kernel_rfl).symm.trans hf) |>.symm
      obtain rfl : fn = Tryz.f6 := (Option.some.inj (Tryz.func6.symm.trans hfn)).symm
      exact ⟨by kernel_rfl, fun j t ht => by
        rw [Tryz.params6] at ht
        have hm : t ∈ [60] := by simpa using Array.mem_of_getElem? ht
        have hall : ([60].all fun u => !Tryz.prog.wantsStandIn u) = true := by kernel_rfl
        exact (show Tryz.prog.wantsStandIn t = false by simpa using List.all_eq_true.1 hall t hm)⟩)
    (by kernel_rfl)
#print axioms proved
end Go.Proofs.YtpkmekdpmkfcdaaGreatDoor.scriptRoundUptoP

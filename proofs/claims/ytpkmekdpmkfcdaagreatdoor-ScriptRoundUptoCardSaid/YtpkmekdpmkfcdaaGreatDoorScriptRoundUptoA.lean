/- culvertlaw22.ScriptRound on arguments of a bounded bulk: the step. -/
import Derived.Test.YtpkmekdpmkfcdaaGreatDoorCards
import Derived.Test.YtpkmekdpmkfcdaaGreatDoorTie
import Derived.SevenTiedAt
import Derived.Deep.DeepHandedRow
import Derived.Deep.DeepWitnessRowRef
import Derived.Test.YtpkmekdpmkfcdaaGreatDoorFrameT
import Derived.Test.YtpkmekdpmkfcdaaGreatDoorFrameU
import Derived.Test.YtpkmekdpmkfcdaaGreatDoorSsK
namespace Go.Proofs.YtpkmekdpmkfcdaaGreatDoor.scriptRoundUptoP
open Go.ChangeShapes Go.WideShapes Go.ChangeAt Go.RowKit Go.Joins Go.Proofs.YtpkmekdpmkfcdaaGreatDoor.Fr Go.Proofs.YtpkmekdpmkfcdaaGreatDoor.En Go.Proofs.YtpkmekdpmkfcdaaGreatDoor.Wd
open Go.ChangeMaps (open_string shut_string)
set_option linter.unusedVariables false

set_option maxRecDepth 100000 in
theorem reads (os : Os) {H : Type} (enc : TypeId × Value → H) : ∃ places, DataW.whole enc Tryz.prog ((World.doorLaid Tryz.prog 600 os).forCall (fun _ _ => 0) ⟨#[], #[.agg #[.int .i64 0, .slice none 0 0]], []⟩).memory Tryz.f6.params.toList Rows.scriptRoundSpec.vars false (#[.agg #[.int .i64 0, .slice none 0 0]] : Array Value).toList 8 = some ([.agg [.lit (.int .i64 0), .nil]], [], places) :=
  ⟨[], by kernel_rfl⟩
set_option maxRecDepth 100000 in
theorem lifted (os : Os) (started : os.Started) (H : Type) (enc : TypeId × Value → H) (F : Stop.Interp) :
    ReturnsInHanded {} Tryz.checked os 6 .any ((Rows.OpenSpec.upto Rows.scriptRoundSpec).preRow enc Tryz.prog Tryz.f6 Rows.scriptRoundUptoRow.domain false Rows.scriptRoundUptoRow.laid) (((Rows.OpenSpec.upto Rows.scriptRoundSpec).at F).post enc Tryz.prog Tryz.f6 false true false false) := by
  obtain ⟨places, hx⟩ := reads os enc
  refine returnsInHanded_of_row (C := Tryz.checked) (s := Rows.OpenSpec.upto Rows.scriptRoundSpec) own started (by kernel_rfl) Tryz.func6
    (witness_row_atRef (enc := enc) (C := Tryz.checked) false (World.doorLaid Tryz.prog 600 os) #[.agg #[.int .i64 0, .slice none 0 0]] rfl (by kernel_rfl) (by kernel_rfl) (by kernel_rfl)
      (OpenSpec.preRow_of_cond 8 hx (by kernel_rfl) (fun k hk => by cases hk; kernel_rfl) (by kernel_rfl) (door_met os _))) ?_
  intro W base args ds gs before hval0 hW _ hcond hsz hL _ _
  have hkk := hcond _ rfl
  have hval : ∀ (j : Nat) t v, Tryz.f6.params[j]? = some t → args[j]? = some v → Value.okWide Tryz.prog W .any base t v := hval0
  have hW' := hW
  obtain ⟨p, q, hA0, hV, rfl, hfz, hnd⟩ := hW
  have hA : DataW.TrodAll enc Tryz.prog W 0 (fun _ => true) true Tryz.f6.params.toList args.toList ds p := hA0
  rw [Tryz.params6] at hA hval
  obtain ⟨v0, vs0, d0, ds0, p0, q0, hargs, rfl, rfl, h0, r0⟩ := trodAll_cons hA
  obtain ⟨rfl, rfl, rfl⟩ := trodAll_nil r0
  obtain rfl : args = #[v0] := by cases args; simp_all
  obtain ⟨rfl, rfl⟩ := trodVars_none hV
  have k0 := h0
  have lt0 : ∀ x ∈ p0, x.block < W.heap.size := by obtain ⟨m, hm⟩ := k0; exact DataW.trod_lt m _ _ _ hm
  have bk0 : Rows.uptoBulk d0 ≤ 1048576 := bk_all hkk (by simp)
  obtain ⟨sec0, l0, us0, a0, cap0, rfl, _, _, hc0, hl0, hs0, hm0⟩ := open_script (hval 0 60 v0 rfl rfl) h0 bk0
  have hE : Env W := env_of hL
  have hT := tabs_of hL
  refine (Sr.scriptRound_law sec0 (Lib.hid rfl) us0 a0 cap0 W hE hT (by omega) hs0 hm0).mono fun e W' ⟨he, bel⟩ => ?_
  subst he
  show ∃ v, Ending.returned (.bool true) = .returned v ∧ Rows.scriptRoundSpec.post enc Tryz.prog Tryz.f6 false true false false W _ v W'
  exact ⟨_, rfl, _, _, _, [], _, [], hW', trodAll_mk1 (shut_bool Tryz.underlying4 _), (trodAll_cons_mk (Below.trod laidOut (by kernel_rfl) (of_decide_eq_true (by kernel_rfl)) k0 bel lt0) trodAll_mk0), rfl, bel.frame _, fun h => by cases h⟩

end Go.Proofs.YtpkmekdpmkfcdaaGreatDoor.scriptRoundUptoP

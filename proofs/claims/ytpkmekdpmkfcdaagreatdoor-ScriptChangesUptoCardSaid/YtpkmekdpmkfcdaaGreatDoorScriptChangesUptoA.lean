/- culvertlaw22.ScriptChanges on arguments of a bounded bulk: the step. -/
import Derived.Test.YtpkmekdpmkfcdaaGreatDoorCards
import Derived.Test.YtpkmekdpmkfcdaaGreatDoorTie
import Derived.SevenTiedAt
import Derived.Deep.DeepHandedRow
import Derived.Deep.DeepWitnessRowRef
import Derived.Test.YtpkmekdpmkfcdaaGreatDoorFrameT
import Derived.Test.YtpkmekdpmkfcdaaGreatDoorFrameV
import Derived.Test.YtpkmekdpmkfcdaaGreatDoorSnC
namespace Go.Proofs.YtpkmekdpmkfcdaaGreatDoor.scriptChangesUptoP
open Go.ChangeShapes Go.WideShapes Go.ChangeAt Go.RowKit Go.Joins Go.Proofs.YtpkmekdpmkfcdaaGreatDoor.Fr Go.Proofs.YtpkmekdpmkfcdaaGreatDoor.En Go.Proofs.YtpkmekdpmkfcdaaGreatDoor.Wd
open Go.ChangeMaps (open_string shut_string)
set_option linter.unusedVariables false

set_option maxRecDepth 100000 in
theorem reads (os : Os) {H : Type} (enc : TypeId × Value → H) : ∃ places, DataW.whole enc Tryz.prog ((World.doorLaid Tryz.prog 600 os).forCall (fun _ _ => 0) ⟨#[], #[.string ⟨#[]⟩, .slice none 0 0], []⟩).memory Tryz.f3.params.toList Rows.scriptChangesSpec.vars false (#[.string ⟨#[]⟩, .slice none 0 0] : Array Value).toList 8 = some ([.lit (.string []), .nil], [], places) :=
  ⟨[], by kernel_rfl⟩
set_option maxRecDepth 100000 in
theorem lifted (os : Os) (started : os.Started) (H : Type) (enc : TypeId × Value → H) (F : Stop.Interp) :
    ReturnsInHanded {} Tryz.checked os 3 .any ((Rows.OpenSpec.upto Rows.scriptChangesSpec).preRow enc Tryz.prog Tryz.f3 Rows.scriptChangesUptoRow.domain false Rows.scriptChangesUptoRow.laid) (((Rows.OpenSpec.upto Rows.scriptChangesSpec).at F).post enc Tryz.prog Tryz.f3 false true false false) := by
  obtain ⟨places, hx⟩ := reads os enc
  refine returnsInHanded_of_row (C := Tryz.checked) (s := Rows.OpenSpec.upto Rows.scriptChangesSpec) own started (by kernel_rfl) Tryz.func3
    (witness_row_atRef (enc := enc) (C := Tryz.checked) false (World.doorLaid Tryz.prog 600 os) #[.string ⟨#[]⟩, .slice none 0 0] rfl (by kernel_rfl) (by kernel_rfl) (by kernel_rfl)
      (OpenSpec.preRow_of_cond 8 hx (by kernel_rfl) (fun k hk => by cases hk; kernel_rfl) (by kernel_rfl) (door_met os _))) ?_
  intro W base args ds gs before hval0 hW _ hcond hsz hL _ _
  have hkk := hcond _ rfl
  have hval : ∀ (j : Nat) t v, Tryz.f3.params[j]? = some t → args[j]? = some v → Value.okWide Tryz.prog W .any base t v := hval0
  have hW' := hW
  obtain ⟨p, q, hA0, hV, rfl, hfz, hnd⟩ := hW
  have hA : DataW.TrodAll enc Tryz.prog W 0 (fun _ => true) true Tryz.f3.params.toList args.toList ds p := hA0
  rw [Tryz.params3] at hA hval
  obtain ⟨v0, vs0, d0, ds0, p0, q0, hargs, rfl, rfl, h0, r0⟩ := trodAll_cons hA
  obtain ⟨v1, vs1, d1, ds1, p1, q1, rfl, rfl, rfl, h1, r1⟩ := trodAll_cons r0
  obtain ⟨rfl, rfl, rfl⟩ := trodAll_nil r1
  obtain rfl : args = #[v0, v1] := by cases args; simp_all
  obtain ⟨rfl, rfl⟩ := trodVars_none hV
  have k0 := h0
  have lt0 : ∀ x ∈ p0, x.block < W.heap.size := by obtain ⟨m, hm⟩ := k0; exact DataW.trod_lt m _ _ _ hm
  have bk0 : Rows.uptoBulk d0 ≤ 1048576 := bk_all hkk (by simp)
  obtain ⟨t0, rfl, hd0, -, ws0⟩ := open_string Tryz.underlying9 (hval 0 9 v0 rfl rfl) h0
  have zz0 : t0.size ≤ 1048576 := by
    rw [hd0] at bk0
    simp only [Rows.uptoBulk, Array.length_toList] at bk0
    show t0.data.size ≤ _
    omega
  have k1 := h1
  have lt1 : ∀ x ∈ p1, x.block < W.heap.size := by obtain ⟨m, hm⟩ := k1; exact DataW.trod_lt m _ _ _ hm
  have bk1 : Rows.uptoBulk d1 ≤ 1048576 := bk_all hkk (by simp)
  obtain ⟨l1, kv1, a1, cap1, rfl, hc1, hl1, hs1, hm1⟩ := open_chv (okWide_slice Tryz.underlying22 (hval 1 22 v1 rfl rfl)) h1 bk1
  have hE : Env W := env_of hL
  have hT := tabs_of hL
  refine (Sr.scriptChanges_law t0.data.toList (Lib.hid rfl) kv1 a1 cap1 W hE hT (by omega) hc1 hs1 (fun c h => (hm1 c h).1) (fun c h => (hm1 c h).2)).mono fun e W' ⟨he, bel⟩ => ?_
  subst he
  show ∃ v, Ending.returned (.bool true) = .returned v ∧ Rows.scriptChangesSpec.post enc Tryz.prog Tryz.f3 false true false false W _ v W'
  exact ⟨_, rfl, _, _, _, [], _, [], hW', trodAll_mk1 (shut_bool Tryz.underlying4 _), (trodAll_cons_mk (Below.trod laidOut (by kernel_rfl) (of_decide_eq_true (by kernel_rfl)) k0 bel lt0) (trodAll_cons_mk (Below.trod laidOut (by kernel_rfl) (of_decide_eq_true (by kernel_rfl)) k1 bel lt1) trodAll_mk0)), rfl, bel.frame _, fun h => by cases h⟩

end Go.Proofs.YtpkmekdpmkfcdaaGreatDoor.scriptChangesUptoP

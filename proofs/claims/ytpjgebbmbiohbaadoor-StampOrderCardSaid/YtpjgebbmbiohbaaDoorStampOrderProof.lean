/-
  PROVED: culvertlaw6.StampOrder returns true: the order is that of the bytes; a whole order. Condition: the listed variables of Go's library hold what their initialisers lay (tied to the program's text by the card); of the arguments nothing is asked.
-/
import Derived.Test.YtpjgebbmbiohbaaDoorCards
import Derived.Test.YtpjgebbmbiohbaaDoorTie
import Derived.SevenTiedAt
import Derived.Test.YtpjgebbmbiohbaaDoorFrame
import Derived.Test.YtpjgebbmbiohbaaDoorOrder
namespace Go.Proofs.YtpjgebbmbiohbaaDoor.stampOrderP
open Go.ChangeShapes Go.WideShapes Go.ChangeAt Go.RowKit Go.Joins Go.Proofs.YtpjgebbmbiohbaaDoor.Fr Go.Proofs.YtpjgebbmbiohbaaDoor.En Go.Proofs.YtpjgebbmbiohbaaDoor.Wd
open Go.ChangeMaps (open_string shut_string)
set_option linter.unusedVariables false

set_option maxRecDepth 100000 in
theorem lifted (os : Os) (started : os.Started) (H : Type) (enc : TypeId × Value → H) :
    ReturnsInHanded {} Tryd.checked os 9 .any (fun w args => (Rows.stampOrderSpec.pre enc Tryd.prog Tryd.f9 [] false w args ∧ laidMetH Tryd.prog listed w) ∧ sizedMet enc Tryd.prog Tryd.f9 (OpenSpec.ofChange Rows.stampOrderSpec) false w args)
      (Rows.stampOrderSpec.post enc Tryd.prog Tryd.f9 false true false false) := by
  refine returnsInHanded_of_change_and (C := Tryd.checked) (X := fun w _ => laidMetH Tryd.prog listed w) (fun _ _ _ hh h => h.of_heap hh) own started (by kernel_rfl) Tryd.func9
    (ChangeSpec.witness_shaped (enc := enc) (C := Tryd.checked) (os := os) (X := fun w _ => laidMetH Tryd.prog listed w) false (World.doorLaid Tryd.prog 62 os) #[.agg #[.int .i64 0, .int .i64 0], .agg #[.int .i64 0, .int .i64 0], .agg #[.int .i64 0, .int .i64 0]] 8 rfl (World.shaped_of_RefB (by kernel_rfl) (by kernel_rfl)) (by kernel_rfl) (by kernel_rfl) (by kernel_rfl) (door_met os _)) ?_
  intro W base args ds gs before hval0 hW _ hsz hL _
  have hval : ∀ (j : Nat) t v, Tryd.f9.params[j]? = some t → args[j]? = some v → Value.okWide Tryd.prog W .any base t v := hval0
  have hW' := hW
  obtain ⟨p, q, hA0, hV, rfl, hfz, hnd⟩ := hW
  have hA : DataW.TrodAll enc Tryd.prog W 0 (fun _ => true) true Tryd.f9.params.toList args.toList ds p := hA0
  rw [Tryd.params9] at hA hval hsz
  obtain ⟨v0, vs0, d0, ds0, p0, q0, hargs, rfl, rfl, h0, r0⟩ := trodAll_cons hA
  obtain ⟨v1, vs1, d1, ds1, p1, q1, rfl, rfl, rfl, h1, r1⟩ := trodAll_cons r0
  obtain ⟨v2, vs2, d2, ds2, p2, q2, rfl, rfl, rfl, h2, r2⟩ := trodAll_cons r1
  obtain ⟨rfl, rfl, rfl⟩ := trodAll_nil r2
  obtain rfl : args = #[v0, v1, v2] := by cases args; simp_all
  obtain ⟨rfl, rfl⟩ := trodVars_none hV
  have k0 := h0
  have lt0 : ∀ x ∈ p0, x.block < W.heap.size := by obtain ⟨m, hm⟩ := k0; exact DataW.trod_lt m _ _ _ hm
  obtain ⟨x0a, x0b, ya0, yb0, m0, rfl, hd0, -, ha0, hb0⟩ := open_agg2 Tryd.underlying23 (by kernel_rfl) (by kernel_rfl) (hval 0 23 v0 rfl rfl) h0
  obtain ⟨s0, ea0, -, wa0⟩ := DataW.trod_int Tryd.underlying3 ha0
  obtain ⟨n0, eb0, -, wb0⟩ := DataW.trod_int Tryd.underlying3 hb0
  simp only [List.cons.injEq, and_true] at ea0 eb0
  subst ea0 eb0
  have bs0 := bounds_i64 wa0
  have bn0 := bounds_i64 wb0
  have k1 := h1
  have lt1 : ∀ x ∈ p1, x.block < W.heap.size := by obtain ⟨m, hm⟩ := k1; exact DataW.trod_lt m _ _ _ hm
  obtain ⟨x1a, x1b, ya1, yb1, m1, rfl, hd1, -, ha1, hb1⟩ := open_agg2 Tryd.underlying23 (by kernel_rfl) (by kernel_rfl) (hval 1 23 v1 rfl rfl) h1
  obtain ⟨s1, ea1, -, wa1⟩ := DataW.trod_int Tryd.underlying3 ha1
  obtain ⟨n1, eb1, -, wb1⟩ := DataW.trod_int Tryd.underlying3 hb1
  simp only [List.cons.injEq, and_true] at ea1 eb1
  subst ea1 eb1
  have bs1 := bounds_i64 wa1
  have bn1 := bounds_i64 wb1
  have k2 := h2
  have lt2 : ∀ x ∈ p2, x.block < W.heap.size := by obtain ⟨m, hm⟩ := k2; exact DataW.trod_lt m _ _ _ hm
  obtain ⟨x2a, x2b, ya2, yb2, m2, rfl, hd2, -, ha2, hb2⟩ := open_agg2 Tryd.underlying23 (by kernel_rfl) (by kernel_rfl) (hval 2 23 v2 rfl rfl) h2
  obtain ⟨s2, ea2, -, wa2⟩ := DataW.trod_int Tryd.underlying3 ha2
  obtain ⟨n2, eb2, -, wb2⟩ := DataW.trod_int Tryd.underlying3 hb2
  simp only [List.cons.injEq, and_true] at ea2 eb2
  subst ea2 eb2
  have bs2 := bounds_i64 wa2
  have bn2 := bounds_i64 wb2
  have hE : Env W := env_of hL
  refine (St.stampOrder_law s0 n0 s1 n1 s2 n2 W hE bs0.1 bs0.2 bs1.1 bs1.2 bs2.1 bs2.2).mono fun e W' ⟨he, bel⟩ => ?_
  subst he
  exact ⟨_, rfl, _, _, _, [], _, [], hW', trodAll_mk1 (shut_bool Tryd.underlying4 _), (trodAll_cons_mk (Below.trod laidOut (by kernel_rfl) (of_decide_eq_true (by kernel_rfl)) k0 bel lt0) (trodAll_cons_mk (Below.trod laidOut (by kernel_rfl) (of_decide_eq_true (by kernel_rfl)) k1 bel lt1) (trodAll_cons_mk (Below.trod laidOut (by kernel_rfl) (of_decide_eq_true (by kernel_rfl)) k2 bel lt2) trodAll_mk0))), rfl, bel.frame _, fun h => by cases h⟩

theorem over : Rows.StampOrderSaid :=
  OpenClaim.holds_of_wide 9 Tryd.f9 rfl rfl rfl rfl rfl rfl rfl ⟨rfl, rfl, rfl, rfl, rfl⟩ rfl rfl rfl rfl rfl (by kernel_rfl) Tryd.func9 (by kernel_rfl)
    (of_decide_eq_true (by kernel_rfl)) (by unfold Func.isWrapper; first | (rw [if_pos (by decide +kernel)]; kernel_rfl) | (rw [if_neg (by decide +kernel)]; exact ⟨rfl, rfl⟩))
    (fun os started H enc _ => lifted os started H enc)

theorem proved : Rows.StampOrderCardSaid :=
  Claim7.holds_tied_plain_at .later [] [.data, .data, .data, .sentinel, .sentinel] true (true, "aa2bc32e75501850b67afb806d9c52f83a309960c89aec69c756a13fae6896ad") true
    over (fun _ h => by cases h) (by kernel_rfl) (fun _ h => by cases h) stampOrder_row_tie rfl ⟨rfl, rfl⟩ (by kernel_rfl) rfl
    (fun f fn hf hfn => by
      obtain rfl : f = 9 := Option.some.inj ((show Tryd.prog.funcNamed "culvert/culvertlaw6.StampOrder" = some 9 by kernel_rfl).symm.trans hf) |>.symm
      obtain rfl : fn = Tryd.f9 := (Option.some.inj (Tryd.func9.symm.trans hfn)).symm
      exact ⟨by kernel_rfl, fun j t ht => by
        rw [Tryd.params9] at ht
        have hm : t ∈ [23, 23, 23] := by simpa using Array.mem_of_getElem? ht
        have hall : ([23, 23, 23].all fun u => !Tryd.prog.wantsStandIn u) = true := by kernel_rfl
        exact (show Tryd.prog.wantsStandIn t = false by simpa using List.all_eq_true.1 hall t hm)⟩)
    (by kernel_rfl)
#print axioms proved
end Go.Proofs.YtpjgebbmbiohbaaDoor.stampOrderP

/- Contracts of the reference: faults; the words of the first line. -/
import Derived.Test.YtpkmekdpmkfcdaaGreatDoorSnB
import Derived.Test.YtpkmekdpmkfcdaaGreatDoorStampJ
namespace Go.Proofs.YtpkmekdpmkfcdaaGreatDoor.Sr
set_option linter.unusedVariables false
set_option linter.unusedSimpArgs false
open Go.RowKit Go.Proofs.YtpkmekdpmkfcdaaGreatDoor.Wd Go.Proofs.YtpkmekdpmkfcdaaGreatDoor.Px Go.Proofs.YtpkmekdpmkfcdaaGreatDoor.By Go.Proofs.YtpkmekdpmkfcdaaGreatDoor.En Go.Proofs.YtpkmekdpmkfcdaaGreatDoor.Pl Go.Proofs.YtpkmekdpmkfcdaaGreatDoor.Sc
open Go.Proofs.YtpkmekdpmkfcdaaGreatDoor.Pf (Cut strc one)

theorem named_flt (a : List UInt8) : named [pow, inou] a = fltK a := by
  unfold fltK named named named
  by_cases h1 : a = pow
  · rw [if_pos h1.symm, if_pos h1]
  · rw [if_neg (fun e => h1 e.symm), if_neg h1]
    by_cases h2 : a = inou
    · simp [h2]
    · have h3 : ¬ inou = a := fun e => h2 e.symm
      simp [h2, h3]
theorem fltK_le (a : List UInt8) : fltK a ≤ 2 := by unfold fltK; split <;> (try split) <;> omega
set_option maxRecDepth 20000 in
set_option maxHeartbeats 1600000 in
theorem rfaults_any (l : List (List UInt8)) (A : Option Addr) (c : Nat) (w : World) (hl : l.length ≤ 2000000) (hc : l.length ≤ c) (hs : Shows strc w w.heap.size A l) (hw : ∀ x ∈ l, x.length ≤ 2000000) :
    Calls Tryz.prog 142 #[.slice A l.length c] w fun e w' => FaultsR (flts l) w e w' ∧ Below w.heap.size w w' := by
  obtain ⟨i0, hi0, hz0, hz1, hz2'⟩ := info_parts infoFault
  obtain ⟨N, hN⟩ : ∃ N, l.length = N := ⟨_, rfl⟩
  rw [hN] at hl hc ⊢
  have HN := Lib.hid hN
  have HW := Lib.hid hw
  have HF0 : Hid (FltAt l (l.drop 0) []) := Lib.hid (FltAt.start l)
  clear hN hw
  go_enter Tryz.func142, Tryz.ntmps142
  go_wp2
  go_loopw [4, 5] (fun v i wr => ∃ (k j : Nat) (dn : List (Int × Int)), Hid (j = 2 * k) ∧ j ≤ N + 1 ∧ i = .int .i64 (j : Int) ∧ Hid (FltAt l (l.drop j) dn) ∧ Hid (dn.length = k) ∧ k ≤ N ∧ (∃ A c, v = .slice A k c) ∧ wr.ownsRow w.heap.size 125 2 v k (dn.flatMap fltC) ∧ Below w.heap.size w wr) (fun _ i _ => N + 1 - (intOf i).toNat)
  case atStart => exact ⟨0, 0, [], Lib.hid rfl, by omega, rfl, HF0, Lib.hid rfl, by omega, ⟨_, _, rfl⟩, World.ownsRow_nil _ _ _ _, Below.refl _ _⟩
  case round =>
    obtain ⟨k, j, dn, HJ, hjN, rfl, HF, HK, hkN, ⟨Av, cv, rfl⟩, hown, hbl⟩ := hrel
    by_cases hlt : j + 1 < N
    · have i1 : (j : Int) + 1 < (N : Int) := by omega
      have i2 : (j : Int) < (N : Int) := by omega
      obtain ⟨a, ha⟩ : ∃ x, l[j]? = some x := ⟨_, List.getElem?_eq_getElem (by rw [HN.out]; omega)⟩
      obtain ⟨b, hb⟩ : ∃ x, l[j + 1]? = some x := ⟨_, List.getElem?_eq_getElem (by rw [HN.out]; omega)⟩
      have hdr : l.drop j = a :: b :: l.drop (j + 2) := by
        obtain ⟨h1, e1⟩ := List.getElem?_eq_some_iff.1 ha
        obtain ⟨h2, e2⟩ := List.getElem?_eq_some_iff.1 hb
        rw [List.drop_eq_getElem_cons h1, List.drop_eq_getElem_cons h2, e1, e2]
      have hF2 := HF.out
      rw [hdr] at hF2
      have HF2 := Lib.hid hF2
      have hla := HW.out a (List.mem_of_getElem? ha)
      have hlb := HW.out b (List.mem_of_getElem? hb)
      obtain ⟨bb, o, rfl, hbb, hcell⟩ := hs (by rw [HN.out]; omega)
      have c0 := (hbl.cell (p := ⟨bb, o + j, none⟩) hbb).trans (hcell j a ha)
      have c1 := (hbl.cell (p := ⟨bb, o + (j + 1), none⟩) hbb).trans (hcell (j + 1) b hb)
      unfold strc at c0 c1
      have q0 : (wr.alloc (.cells #[.string ⟨#[]⟩, .string ⟨#[112, 111, 119, 101, 114]⟩, .string ⟨#[105, 111]⟩] 9)).cell? ⟨bb, o + j, none⟩ = some (.string ⟨a.toArray⟩) := keepc (one wr _) c0
      have q1 : (wr.alloc (.cells #[.string ⟨#[]⟩, .string ⟨#[112, 111, 119, 101, 114]⟩, .string ⟨#[105, 111]⟩] 9)).cell? ⟨bb, o + (j + 1), none⟩ = some (.string ⟨b.toArray⟩) := keepc (one wr _) c1
      have hS1 : Shows strc (wr.alloc (.cells #[.string ⟨#[]⟩, .string ⟨#[112, 111, 119, 101, 114]⟩, .string ⟨#[105, 111]⟩] 9)) (wr.alloc (.cells #[.string ⟨#[]⟩, .string ⟨#[112, 111, 119, 101, 114]⟩, .string ⟨#[105, 111]⟩] 9)).heap.size (some ⟨wr.heap.size, 0, none⟩) ([] :: [pow, inou]) := shows_new wr _ _ _ rfl
      have hbA : Below w.heap.size w (wr.alloc (.cells #[.string ⟨#[]⟩, .string ⟨#[112, 111, 119, 101, 114]⟩, .string ⟨#[105, 111]⟩] 9)) := hbl.alloc hbl.size _
      have hownA := hown.alloc (.cells #[.string ⟨#[]⟩, .string ⟨#[112, 111, 119, 101, 114]⟩, .string ⟨#[105, 111]⟩] 9)
      obtain ⟨K, hK⟩ : ∃ K, fltK a = K := ⟨_, rfl⟩
      have hK2 : K ≤ 2 := by rw [← hK]; exact fltK_le a
      have HNK : Hid (named [pow, inou] a = K) := Lib.hid (by rw [named_flt]; exact hK)
      obtain ⟨v, hv⟩ : ∃ v, numI b = v := ⟨_, rfl⟩
      have HV := Lib.hid hv
      have HKK := Lib.hid hK
      have ej : ((j : Int) + 1).toNat = j + 1 := by omega
      have hcall := fun wq (hS : Shows strc wq wq.heap.size (some ⟨wr.heap.size, 0, none⟩) ([] :: [pow, inou])) => rfind_as HNK (some ⟨wr.heap.size, 0, none⟩) 3 3 wq (Lib.hid rfl) (by decide) hS
      clear hF2 hdr ha hb hcell c0 c1 hK hv hown hbl
      by_cases hK0 : K = 0
      · have HE := Lib.hid (HF2.out.word (by rw [HKK.out]; exact hK0))
        subst hK0
        go_wp2_with fail
        refine (hcall _ hS1).mono ?_
        rintro e w2 ⟨rfl, hw2⟩
        rw [hw2]
        clear hw2 hS1
        go_wp2
        go_ret2
        exact ⟨by rw [HE.out]; exact rfl, hbA⟩
      · have hk1 : ((K : Int) == 0) = false := by rw [beq_eq_false_iff_ne]; omega
        have hk0 : fltK a ≠ 0 := by rw [HKK.out]; exact hK0
        have HK0 := Lib.hid hk0
        clear hk0 hK0
        by_cases hneg : v < 0
        · have HE := Lib.hid (HF2.out.num HK0.out (numI_neg HV.out hneg))
          go_wp2_with fail
          refine (hcall _ hS1).mono ?_
          rintro e w2 ⟨rfl, hw2⟩
          rw [hw2]
          clear hw2 hS1
          go_wp2_with fail
          refine (rnumber_as HV (by omega) _).mono ?_
          rintro e w2 ⟨rfl, hw2⟩
          rw [hw2]
          clear hw2
          go_wp2
          go_ret2
          exact ⟨by rw [HE.out]; exact rfl, hbA⟩
        · obtain ⟨n, hn, rfl⟩ := numI_pos HV.out hneg
          have hX := HF2.out.next HK0.out hn
          rw [HKK.out] at hX
          have HX := Lib.hid hX
          have hnn : ¬ (n : Int) < 0 := by omega
          clear hX hn hneg
          go_wp2_with fail
          refine (hcall _ hS1).mono ?_
          rintro e w2 ⟨rfl, hw2⟩
          rw [hw2]
          clear hw2 hS1
          go_wp2_with fail
          refine (rnumber_as HV (by omega) _).mono ?_
          rintro e w2 ⟨rfl, hw2⟩
          rw [hw2]
          clear hw2 q0 q1 hcall
          generalize wr.alloc (.cells #[.string ⟨#[]⟩, .string ⟨#[112, 111, 119, 101, 114]⟩, .string ⟨#[105, 111]⟩] 9) = w3 at hbA hownA ⊢
          go_wp2_with (at_builtin; go_loud (refine wpList_append_own _ rfl _ _ 105 rfl w.heap.size 125 i0 (.agg #[.int .i64 0, .int .i64 0]) 2 16 Tryz.underlying105 hi0 hz0 hz1 hz2' rfl (by decide) _ _ _ rfl (hownA.alloc _) ⟨w3.heap.size, 0, none⟩ 1 1 [_, _] rfl rfl (cells_at (by simp) _ _) ?c2 ?c3 ?c4 ?c5 ?_))
          case c2 => intro u hu; simp at hu; rcases hu with rfl | rfl <;> rfl
          case c3 => unfold maxLen; omega
          case c4 => omega
          case c5 => have := hbA.size; simp at this ⊢; omega
          intro v' w4 hown' hgrow _
          have hbk3 := (hbA.alloc hbA.size _).grown hgrow (by have := hbA.size; simp at this ⊢; omega) (fun j hj => (hownA.lt j hj).1)
          obtain ⟨A', c', rfl, -⟩ := own_sl hown'
          clear hownA hgrow hbA
          go_wp2
          go_roundw
          case rel => exact ⟨k + 1, j + 2, _, Lib.hid (by have := HJ.out; omega), by omega, by go_num, HX, Lib.hid (by rw [List.length_append, HK.out]; rfl), by have := HJ.out; omega, ⟨_, _, rfl⟩, by rw [List.flatMap_append]; exact hown', hbk3⟩
          case measure => simp [intOf]; omega
    · have i1 : ¬ (j : Int) + 1 < (N : Int) := by omega
      have HE : Hid (flts l = .ok dn) := Lib.hid (HF.out.done (by rw [List.length_drop, HN.out]; omega))
      have hk := HK.out
      subst hk
      go_wp2
      go_ret2
      exact ⟨by rw [HE.out]; exact ⟨_, _, rfl, hown⟩, hbl⟩
theorem rfirst_any (a : List UInt8) (ws : List (List UInt8)) (A : Option Addr) (c : Nat) (w : World) (hl : (a :: ws).length ≤ 2000000) (hs : Shows strc w w.heap.size A (a :: ws)) (hw : ∀ x ∈ a :: ws, x.length ≤ 2000000) :
    Calls Tryz.prog 52 #[.slice A (a :: ws).length c] w fun e w' => e = .returned (ofF (firstS (a :: ws))) ∧ Below w.heap.size w w' := by
  obtain ⟨bb, o, rfl, hbb, hcell⟩ := hs (by simp)
  have c0 := hcell 0 a rfl
  rw [Nat.add_zero] at c0
  have hc1 := hcell 1
  clear hcell hs
  unfold strc at c0 hc1
  obtain ⟨N, hN⟩ : ∃ N, (a :: ws).length = N := ⟨_, rfl⟩
  rw [hN] at hl ⊢
  have hN0 : 0 < N := by rw [← hN]; simp
  have i0 : (0 : Int) < (N : Int) := by omega
  by_cases ha : a = culv
  · have e1 : (a == [99, 117, 108, 118, 101, 114, 116]) = true := by rw [ha]; rfl
    have e2 : (a != [99, 117, 108, 118, 101, 114, 116]) = false := by rw [ha]; rfl
    by_cases h2 : N = 2
    · obtain ⟨b, rfl⟩ : ∃ b, ws = [b] := by
        match ws, hN with
        | [], h => simp at h; omega
        | [b], _ => exact ⟨b, rfl⟩
        | _ :: _ :: _, h => simp at h; omega
      have c1 := hc1 b rfl
      have hlb := hw b (by simp)
      have hv : firstS [a, b] = match numW b with
        | some n => .ok n
        | none => .error 223 := by unfold firstS; rw [if_neg (by simp [ha]), if_neg (by simp)]; rfl
      obtain ⟨v, hvv⟩ : ∃ v, numI b = v := ⟨_, rfl⟩
      have HV := Lib.hid hvv
      subst h2
      rw [hv]
      clear hc1 hN hv hvv ha hw
      by_cases hneg : v < 0
      · have hn := numI_neg HV.out hneg
        rw [hn]
        clear hn
        go_enter Tryz.func52, Tryz.ntmps52
        go_wp2_with fail
        refine (rnumber_as HV (by omega) _).mono ?_
        rintro e w2 ⟨rfl, hw2⟩
        rw [hw2]
        clear hw2
        go_wp2
        go_ret2
        exact ⟨rfl, Below.refl _ _⟩
      · obtain ⟨n, hn, rfl⟩ := numI_pos HV.out hneg
        rw [hn]
        have hnn : ¬ (n : Int) < 0 := by omega
        clear hn hneg
        go_enter Tryz.func52, Tryz.ntmps52
        go_wp2_with fail
        refine (rnumber_as HV (by omega) _).mono ?_
        rintro e w2 ⟨rfl, hw2⟩
        rw [hw2]
        clear hw2
        go_wp2
        go_ret2
        exact ⟨rfl, Below.refl _ _⟩
    · have hv : firstS (a :: ws) = .error 226 := by unfold firstS; rw [if_neg (by simp [ha]), if_pos (by rw [hN]; exact h2)]
      have j1 : ((N : Int) != 2) = true := by rw [bne_iff_ne]; omega
      rw [hv]
      clear hc1 hN hv ha h2
      go_enter Tryz.func52, Tryz.ntmps52
      go_wp2
      go_ret2
      exact ⟨rfl, Below.refl _ _⟩
  · have e2 : (a == [99, 117, 108, 118, 101, 114, 116]) = false := by rw [beq_eq_false_iff_ne]; exact ha
    have hv : firstS (a :: ws) = .error 227 := by unfold firstS; rw [if_pos (by simpa using ha)]
    rw [hv]
    clear hc1 hN hv ha
    go_enter Tryz.func52, Tryz.ntmps52
    go_wp2
    go_ret2
    exact ⟨rfl, Below.refl _ _⟩
end Go.Proofs.YtpkmekdpmkfcdaaGreatDoor.Sr

/- Contract: a prefix out of its text, by the program: every text. -/
import Derived.Test.YtnodiejfhkjliaaDoorParseF
namespace Go.Proofs.YtnodiejfhkjliaaDoor.Pf
open Go.Lib (decDigits)
open Go.RowKit Go.Shelf Go.Proofs.YtnodiejfhkjliaaDoor.Wd Go.Proofs.YtnodiejfhkjliaaDoor.Px Go.Proofs.YtnodiejfhkjliaaDoor.By Go.Proofs.YtnodiejfhkjliaaDoor.En Go.Proofs.YtnodiejfhkjliaaDoor.Pl

theorem parse_any (t : List UInt8) (ht : t.length ≤ 140737488355328) (w : World) (hE : Env w) :
    Calls Tryd.prog 31 #[.string ⟨t.toArray⟩] w fun e w' => e = .returned (ofP (prsP t)) ∧ Below w.heap.size w w' := by
  rcases last_spec 47 t with ⟨h, hn⟩ | ⟨q, h, hq, hcut, h47⟩
  · rw [prsP_slash hn]
    exact parse_noslash t ht w (Lib.hid h)
  · have HL := Lib.hid h
    have HA := Lib.hid (ext_take t q)
    have HR := Lib.hid (ext_drop t (q + 1) t.length rfl)
    have la : (t.take q).length ≤ 140737488355328 := by rw [List.length_take]; omega
    have lr : (t.drop (q + 1)).length ≤ 140737488355328 := by rw [List.length_drop]; omega
    cases hA : prsA (t.take q) with
    | none =>
      have hp : prsP t = none := by rw [hcut]; exact prsP_addr h47 hA
      rw [hp]
      cases hv : Lib.atoiAll (t.drop (q + 1)) with
      | ok v => exact parse_noaddr t _ _ q hq ht w hE HL HA HR la lr (Lib.hid (by rw [hA]; rfl)) v (Lib.hid hv)
      | _ => exact parse_noaddr2 t _ _ q hq ht w hE HL HA HR la lr (Lib.hid (by rw [hA]; rfl)) (Lib.hid (by rw [hv]; simp))
    | some p =>
      obtain ⟨f, N⟩ := p
      obtain ⟨hok, hpr⟩ := prsA_some hA
      obtain ⟨s1, s2⟩ := okA_small hok
      have HV : Hid (ofA (prsA (t.take q)) = .tuple #[.agg #[.int .i64 f, .int .u64 ((N / 18446744073709551616 : Nat) : Int), .int .u64 ((N % 18446744073709551616 : Nat) : Int)], .int .i64 0]) := Lib.hid (by rw [hA]; rfl)
      have hno : (∀ v, Lib.atoiAll (t.drop (q + 1)) ≠ .ok v) → Calls Tryd.prog 31 #[.string ⟨t.toArray⟩] w fun e w' => e = .returned (ofP (prsP t)) ∧ Below w.heap.size w w' := fun hv => by
        have hp : prsP t = none := by rw [hcut]; exact prsP_atoi h47 hv
        rw [hp]
        exact parse_noatoi t _ _ q hq ht w hE HL HA HR la lr f _ _ HV (Lib.hid hv)
      cases hv : Lib.atoiAll (t.drop (q + 1)) with
      | ok v =>
        have hvP := vP_of hok v
        have hpT := pT_of hok v
        cases hk : okP f N v with
        | false =>
          have hp : prsP t = none := by rw [hcut]; exact prsP_bad h47 hA hv (.inl hk)
          rw [hp]
          exact parse_novalid t _ _ q hq ht w hE HL HA HR la lr f _ _ s1 s2 HV v (Lib.hid hv) (Lib.hid (by rw [hvP, hk]))
        | true =>
          by_cases he : prP f N v = t
          · have hp : prsP t = some (f, N, v) := by rw [← he]; exact prsP_prt hk
            rw [hp]
            exact parse_same t _ _ q hq ht w hE HL HA HR la lr f _ _ s1 s2 HV v (Lib.hid hv) (Lib.hid (by rw [hvP, hk])) _ (Lib.hid hpT) (Lib.hid he)
          · have hp : prsP t = none := by
              have := prsP_bad h47 hA hv (.inr (by rw [← hcut]; exact he))
              rwa [← hcut] at this
            rw [hp]
            exact parse_other t _ _ q hq ht w hE HL HA HR la lr f _ _ s1 s2 HV v (Lib.hid hv) (Lib.hid (by rw [hvP, hk])) _ (Lib.hid hpT) (Lib.hid he)
      | _ => exact hno (by rw [hv]; simp)

end Go.Proofs.YtnodiejfhkjliaaDoor.Pf

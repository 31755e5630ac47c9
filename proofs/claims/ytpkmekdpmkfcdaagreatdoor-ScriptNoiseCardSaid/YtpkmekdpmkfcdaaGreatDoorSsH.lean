/- Law: noise. -/
import Derived.Test.YtpkmekdpmkfcdaaGreatDoorSsG
namespace Go.Proofs.YtpkmekdpmkfcdaaGreatDoor.Sr
set_option linter.unusedVariables false
set_option linter.unusedSimpArgs false
open Go.RowKit Go.Proofs.YtpkmekdpmkfcdaaGreatDoor.Wd Go.Proofs.YtpkmekdpmkfcdaaGreatDoor.Px Go.Proofs.YtpkmekdpmkfcdaaGreatDoor.By Go.Proofs.YtpkmekdpmkfcdaaGreatDoor.En Go.Proofs.YtpkmekdpmkfcdaaGreatDoor.Pl Go.Proofs.YtpkmekdpmkfcdaaGreatDoor.Pf Go.Proofs.YtpkmekdpmkfcdaaGreatDoor.Sc

theorem goL_bound : ∀ (ls : List (List UInt8)) (st : Option Int × List Opp) (no : Nat) (p : Nat × Int), goL st no ls = .error p → p.1 < no + ls.length
  | [], st, no, p, h => by rw [goL] at h; cases h
  | l :: r, st, no, p, h => by
    rw [goL] at h
    split at h
    · injection h with h; subst h; simp
    · have := goL_bound r _ _ p h
      simp only [List.length_cons]; omega
theorem split_count (s : UInt8) : ∀ t : List UInt8, (split s t).length ≤ t.length + 1
  | [] => by simp [split]
  | c :: r => by
    have := split_count s r
    rw [split]
    split
    · simp only [List.length_cons]; omega
    · split
      · simp
      · rename_i b bs e
        rw [e] at this
        simp only [List.length_cons] at this ⊢; omega
theorem parseS_no {t : List UInt8} {no : Nat} {x : Int} (h : parseS t = .error (no, x)) : no ≤ t.length + 1 := by
  unfold parseS at h
  split at h
  · injection h with h; injection h with h1 h2; omega
  · split at h
    · rename_i p e2
      injection h with h; subst h
      have := goL_bound _ _ _ _ e2
      have := split_count 10 t
      simp only at *
      omega
    · injection h with h; injection h with h1 h2; omega
    · cases h
theorem plain_as {l : List UInt8} {b : Bool} (h : Hid (l.all plC = b)) (hs : l.length ≤ 1000000) (w : World) :
    Calls Tryz.prog 26 #[.string ⟨l.toArray⟩] w fun e w' => e = .returned (.bool b) ∧ Below w.heap.size w w' := by
  have := plain_any l hs w
  rwa [h.out] at this
theorem noisy_as {l t : List UInt8} (h : Hid (noisyS l = t)) (hs : l.length ≤ 1000000) (w : World) :
    Calls Tryz.prog 27 #[.string ⟨l.toArray⟩] w fun e w' => e = .returned (.string ⟨t.toArray⟩) ∧ Below w.heap.size w w' := by
  have := noisy_any l hs w
  rwa [h.out] at this
set_option maxRecDepth 20000 in
set_option maxHeartbeats 2000000 in
theorem scriptNoise_law (t : List UInt8) (ht : t.length ≤ 140737488355328) (w : World) (hE : Env w) (hT : Tabs w) :
    Calls Tryz.prog 8 #[.string ⟨t.toArray⟩] w fun e w' => e = .returned (.bool true) ∧ Below w.heap.size w w' := by
  have hF := fst_any w hE hT
  by_cases h6 : 60000 < t.length
  · have i1 : (60000 : Int) < (t.length : Int) := by omega
    clear h6
    go_enter Tryz.func8, Tryz.ntmps8
    go_wp2_with (go_at_call 10; refine hF.mono ?_; rintro e w1 ⟨rfl, hb1⟩)
    go_ret
    exact ⟨rfl, hb1⟩
  have i1 : ¬ (60000 : Int) < (t.length : Int) := by omega
  have ht6 : t.length ≤ 60000 := by omega
  have HT6 := Lib.hid ht6
  clear h6 ht6
  obtain ⟨b, hb⟩ : ∃ b, t.all plC = b := ⟨_, rfl⟩
  have HB := Lib.hid hb
  cases b with
  | false =>
    clear hb
    go_enter Tryz.func8, Tryz.ntmps8
    go_wp2_with (first
      | (go_at_call 10; refine hF.mono ?_; rintro e w1 ⟨rfl, hb1⟩)
      | (go_at_call 26; refine (plain_as HB (by have := HT6.out; omega) _).mono ?_; rintro e w2 ⟨rfl, hb2⟩))
    go_ret
    exact ⟨rfl, hb1.trans (hb2.mono hb1.size)⟩
  | true =>
    obtain ⟨tn, htn⟩ : ∃ q, noisyS t = q := ⟨_, rfl⟩
    have HTN := Lib.hid htn
    have hnoise := parse_noise ((plainS_iff t).1 hb) HT6.out
    rw [htn] at hnoise
    obtain ⟨r, hr⟩ : ∃ r, parseS t = r := ⟨_, rfl⟩
    have HR := Lib.hid hr
    rw [hr] at hnoise
    clear hb htn
    cases r with
    | ok q =>
      obtain ⟨n, l⟩ := q
      have HR2 : Hid (parseS tn = .ok (n, l)) := Lib.hid hnoise
      obtain ⟨N, hN⟩ : ∃ N, l.length = N := ⟨_, rfl⟩
      have HN := Lib.hid hN
      have hlim := parse_lim hr
      have HL := Lib.hid hlim.1
      have hN2 : N ≤ 2000000 := by omega
      clear hnoise hr hN hlim
      go_enter Tryz.func8, Tryz.ntmps8
      go_wp2_with fail
      refine hF.mono ?_
      rintro e w1 ⟨rfl, hb1⟩
      go_wp2_with (go_at_call 26; refine (plain_as HB (by have := HT6.out; omega) _).mono ?_; rintro e w2 ⟨rfl, hb2⟩; have hb3 := hb1.trans (hb2.mono hb1.size); have hE3 := hE.on hb3; have hT3 := hT.on hb3)
      refine (parse_ok HR HN w2 hE3 hT3).mono ?_
      rintro e w4 ⟨⟨A, c, vs, rfl, hc, hs, hrow⟩, hb4⟩
      have hb5 := hb3.trans (hb4.mono hb3.size)
      have hs5 := hs.on (one w4 (.cells #[.int .i64 n, .slice A N c] 60))
      have hP5 : Blk w4.heap.size #[.int .i64 n, .slice A N c] 60 (w4.alloc (.cells #[.int .i64 n, .slice A N c] 60)) := blk_new w4 _ _
      have hz5 := hb5.size
      have hb6 := hb5.alloc hz5 (.cells #[.int .i64 n, .slice A N c] 60)
      clear hrow hs hb4 hb5 hb3 hb2 hb1 hE3 hT3 hF
      go_wp2_with fail
      refine (noisy_as HTN (by have := HT6.out; omega) _).mono ?_
      rintro e w7 ⟨rfl, hb7⟩
      have hb8 := hb6.trans (hb7.mono hb6.size)
      have hs8 := hs5.on hb7
      have hP8 := hP5.on hb7
      clear hs5 hP5 hb7 hb6
      go_wp2_with fail
      refine (parse_ok HR2 HN w7 (hE.on hb8) (hT.on hb8)).mono ?_
      rintro e w9 ⟨⟨A2, c2, vs2, rfl, hc2, hs9, hrow⟩, hb9⟩
      have hbA := hb8.trans (hb9.mono hb8.size)
      have hsA := hs8.on hb9
      have hPA := hP8.on hb9
      have hsB := hsA.on (one w9 (.cells #[.int .i64 n, .slice A2 N c2] 60))
      have htB := hs9.on (one w9 (.cells #[.int .i64 n, .slice A2 N c2] 60))
      have hPB := hPA.on (one w9 (.cells #[.int .i64 n, .slice A2 N c2] 60))
      have hbB := hbA.alloc hbA.size (.cells #[.int .i64 n, .slice A2 N c2] 60)
      have o0 := hPA.cell (j := 0) rfl
      have o1 := hPA.cell (j := 1) rfl
      have p0 := hPB.cell (j := 0) rfl
      have p1 := hPB.cell (j := 1) rfl
      clear hrow hs8 hP8 hb9 hb8 hs9 hsA
      go_wp2_with fail
      refine (scr_same n HN vs vs2 A A2 c c2 _ hN2 hsB htB HL.out).mono ?_
      rintro e wC ⟨rfl, hbC⟩
      have hbD := hbB.trans (hbC.mono hbB.size)
      clear o0 o1 p0 p1 hPA hPB hbC hbA hbB
      have q1 : IntKind.i64.wrap (-1) = -1 := by decide
      go_wp2_with (go_at_call 14; refine (n22_any _ _).mono ?_; rintro e w10 ⟨rfl, hw⟩; rw [hw]; clear hw)
      go_ret
      exact ⟨rfl, hbD⟩
    | error q =>
      obtain ⟨no, x⟩ := q
      have hnb := parseS_no hr
      obtain ⟨M, hM⟩ : ∃ M, (if no = 0 then 0 else 2 * no - 1) = M := ⟨_, rfl⟩
      simp only [hM] at hnoise
      have HR2 : Hid (parseS tn = .error (M, x)) := Lib.hid hnoise
      have hno : no ≤ 60001 := by have := HT6.out; omega
      clear hnoise hr hnb
      have HNil : Hid (([] : List Opp).length = 0) := Lib.hid rfl
      obtain ⟨qq, hqq⟩ : ∃ qq : Int, IntKind.i64.wrap (2 * (no : Int)) = qq := ⟨_, rfl⟩
      have hqv : qq = 2 * (no : Int) := by rw [← hqq]; exact IntWalk.i64_in _ ⟨by omega, by omega⟩
      by_cases hz : no = 0
      · subst hz
        have hM0 : M = 0 := by rw [← hM]; rfl
        subst hM0
        have hq0 : qq = 0 := by omega
        subst hq0
        have q2 : IntKind.i64.wrap (0 - 1) = -1 := by decide
        clear hM hqv
        by_cases hx : x = 227
        · subst hx
          go_enter Tryz.func8, Tryz.ntmps8
          go_wp2_with fail
          refine hF.mono ?_
          rintro e w1 ⟨rfl, hb1⟩
          go_wp2_with (go_at_call 26; refine (plain_as HB (by have := HT6.out; omega) _).mono ?_; rintro e w2 ⟨rfl, hb2⟩; have hb3 := hb1.trans (hb2.mono hb1.size); have hE3 := hE.on hb3; have hT3 := hT.on hb3)
          refine (parse_bad HR w2 hE3 hT3).mono ?_
          rintro e w4 ⟨rfl, hb4⟩
          have hb5 := hb3.trans (hb4.mono hb3.size)
          have hP5 : Blk w4.heap.size #[.int .i64 0, .slice none 0 0] 60 (w4.alloc (.cells #[.int .i64 0, .slice none 0 0] 60)) := blk_new w4 _ _
          have hz5 := hb5.size
          have hb6 := hb5.alloc hz5 (.cells #[.int .i64 0, .slice none 0 0] 60)
          clear hb4 hb5 hb3 hb2 hb1 hE3 hT3 hF
          go_wp2_with fail
          refine (noisy_as HTN (by have := HT6.out; omega) _).mono ?_
          rintro e w7 ⟨rfl, hb7⟩
          have hb8 := hb6.trans (hb7.mono hb6.size)
          have hP8 := hP5.on hb7
          clear hP5 hb7 hb6
          go_wp2_with fail
          refine (parse_bad HR2 w7 (hE.on hb8) (hT.on hb8)).mono ?_
          rintro e w9 ⟨rfl, hb9⟩
          have hbA := hb8.trans (hb9.mono hb8.size)
          have hPA := hP8.on hb9
          have hPB := hPA.on (one w9 (.cells #[.int .i64 0, .slice none 0 0] 60))
          have hbB := hbA.alloc hbA.size (.cells #[.int .i64 0, .slice none 0 0] 60)
          have o0 := hPA.cell (j := 0) rfl
          have o1 := hPA.cell (j := 1) rfl
          have p0 := hPB.cell (j := 0) rfl
          have p1 := hPB.cell (j := 1) rfl
          clear hP8 hb9 hb8
          go_wp2_with fail
          refine (scr_same 0 HNil [] [] none none 0 0 _ (by omega) (ShO.nil _ _) (ShO.nil _ _) (by simp)).mono ?_
          rintro e wC ⟨rfl, hbC⟩
          have hbD := hbB.trans (hbC.mono hbB.size)
          clear o0 o1 p0 p1 hPA hPB hbC hbA hbB
          go_wp2_with (go_at_call 14; refine (n22_any _ _).mono ?_; rintro e w10 ⟨rfl, hw⟩; rw [hw]; clear hw)
          go_ret
          exact ⟨rfl, hbD⟩
        · have hx2 : (x == 227) = false := by rw [beq_eq_false_iff_ne]; exact hx
          clear hx
          go_enter Tryz.func8, Tryz.ntmps8
          go_wp2_with fail
          refine hF.mono ?_
          rintro e w1 ⟨rfl, hb1⟩
          go_wp2_with (go_at_call 26; refine (plain_as HB (by have := HT6.out; omega) _).mono ?_; rintro e w2 ⟨rfl, hb2⟩; have hb3 := hb1.trans (hb2.mono hb1.size); have hE3 := hE.on hb3; have hT3 := hT.on hb3)
          refine (parse_bad HR w2 hE3 hT3).mono ?_
          rintro e w4 ⟨rfl, hb4⟩
          have hb5 := hb3.trans (hb4.mono hb3.size)
          have hP5 : Blk w4.heap.size #[.int .i64 0, .slice none 0 0] 60 (w4.alloc (.cells #[.int .i64 0, .slice none 0 0] 60)) := blk_new w4 _ _
          have hz5 := hb5.size
          have hb6 := hb5.alloc hz5 (.cells #[.int .i64 0, .slice none 0 0] 60)
          clear hb4 hb5 hb3 hb2 hb1 hE3 hT3 hF
          go_wp2_with fail
          refine (noisy_as HTN (by have := HT6.out; omega) _).mono ?_
          rintro e w7 ⟨rfl, hb7⟩
          have hb8 := hb6.trans (hb7.mono hb6.size)
          have hP8 := hP5.on hb7
          clear hP5 hb7 hb6
          go_wp2_with fail
          refine (parse_bad HR2 w7 (hE.on hb8) (hT.on hb8)).mono ?_
          rintro e w9 ⟨rfl, hb9⟩
          have hbA := hb8.trans (hb9.mono hb8.size)
          have hPA := hP8.on hb9
          have hPB := hPA.on (one w9 (.cells #[.int .i64 0, .slice none 0 0] 60))
          have hbB := hbA.alloc hbA.size (.cells #[.int .i64 0, .slice none 0 0] 60)
          have o0 := hPA.cell (j := 0) rfl
          have o1 := hPA.cell (j := 1) rfl
          have p0 := hPB.cell (j := 0) rfl
          have p1 := hPB.cell (j := 1) rfl
          clear hP8 hb9 hb8
          go_wp2_with fail
          refine (scr_same 0 HNil [] [] none none 0 0 _ (by omega) (ShO.nil _ _) (ShO.nil _ _) (by simp)).mono ?_
          rintro e wC ⟨rfl, hbC⟩
          have hbD := hbB.trans (hbC.mono hbB.size)
          clear o0 o1 p0 p1 hPA hPB hbC hbA hbB
          go_wp2_with (go_at_call 14; refine (n22_any _ _).mono ?_; rintro e w10 ⟨rfl, hw⟩; rw [hw]; clear hw)
          go_ret
          exact ⟨rfl, hbD⟩
      · have hM0 : (M : Int) = 2 * (no : Int) - 1 := by rw [← hM, if_neg hz]; omega
        have q2 : IntKind.i64.wrap (qq - 1) = (M : Int) := by rw [hM0, hqv]; exact IntWalk.i64_in _ ⟨by omega, by omega⟩
        have hz2 : ((no : Int) == 0) = false := by rw [beq_eq_false_iff_ne]; omega
        clear hM hqv hM0
        by_cases hx : x = 227
        · subst hx
          go_enter Tryz.func8, Tryz.ntmps8
          go_wp2_with fail
          refine hF.mono ?_
          rintro e w1 ⟨rfl, hb1⟩
          go_wp2_with (go_at_call 26; refine (plain_as HB (by have := HT6.out; omega) _).mono ?_; rintro e w2 ⟨rfl, hb2⟩; have hb3 := hb1.trans (hb2.mono hb1.size); have hE3 := hE.on hb3; have hT3 := hT.on hb3)
          refine (parse_bad HR w2 hE3 hT3).mono ?_
          rintro e w4 ⟨rfl, hb4⟩
          have hb5 := hb3.trans (hb4.mono hb3.size)
          have hP5 : Blk w4.heap.size #[.int .i64 0, .slice none 0 0] 60 (w4.alloc (.cells #[.int .i64 0, .slice none 0 0] 60)) := blk_new w4 _ _
          have hz5 := hb5.size
          have hb6 := hb5.alloc hz5 (.cells #[.int .i64 0, .slice none 0 0] 60)
          clear hb4 hb5 hb3 hb2 hb1 hE3 hT3 hF
          go_wp2_with fail
          refine (noisy_as HTN (by have := HT6.out; omega) _).mono ?_
          rintro e w7 ⟨rfl, hb7⟩
          have hb8 := hb6.trans (hb7.mono hb6.size)
          have hP8 := hP5.on hb7
          clear hP5 hb7 hb6
          go_wp2_with fail
          refine (parse_bad HR2 w7 (hE.on hb8) (hT.on hb8)).mono ?_
          rintro e w9 ⟨rfl, hb9⟩
          have hbA := hb8.trans (hb9.mono hb8.size)
          have hPA := hP8.on hb9
          have hPB := hPA.on (one w9 (.cells #[.int .i64 0, .slice none 0 0] 60))
          have hbB := hbA.alloc hbA.size (.cells #[.int .i64 0, .slice none 0 0] 60)
          have o0 := hPA.cell (j := 0) rfl
          have o1 := hPA.cell (j := 1) rfl
          have p0 := hPB.cell (j := 0) rfl
          have p1 := hPB.cell (j := 1) rfl
          clear hP8 hb9 hb8
          go_wp2_with fail
          refine (scr_same 0 HNil [] [] none none 0 0 _ (by omega) (ShO.nil _ _) (ShO.nil _ _) (by simp)).mono ?_
          rintro e wC ⟨rfl, hbC⟩
          have hbD := hbB.trans (hbC.mono hbB.size)
          clear o0 o1 p0 p1 hPA hPB hbC hbA hbB
          go_wp2_with (go_at_call 14; refine (n22_any _ _).mono ?_; rintro e w10 ⟨rfl, hw⟩; rw [hw]; clear hw)
          go_ret
          exact ⟨rfl, hbD⟩
        · have hx2 : (x == 227) = false := by rw [beq_eq_false_iff_ne]; exact hx
          clear hx
          go_enter Tryz.func8, Tryz.ntmps8
          go_wp2_with fail
          refine hF.mono ?_
          rintro e w1 ⟨rfl, hb1⟩
          go_wp2_with (go_at_call 26; refine (plain_as HB (by have := HT6.out; omega) _).mono ?_; rintro e w2 ⟨rfl, hb2⟩; have hb3 := hb1.trans (hb2.mono hb1.size); have hE3 := hE.on hb3; have hT3 := hT.on hb3)
          refine (parse_bad HR w2 hE3 hT3).mono ?_
          rintro e w4 ⟨rfl, hb4⟩
          have hb5 := hb3.trans (hb4.mono hb3.size)
          have hP5 : Blk w4.heap.size #[.int .i64 0, .slice none 0 0] 60 (w4.alloc (.cells #[.int .i64 0, .slice none 0 0] 60)) := blk_new w4 _ _
          have hz5 := hb5.size
          have hb6 := hb5.alloc hz5 (.cells #[.int .i64 0, .slice none 0 0] 60)
          clear hb4 hb5 hb3 hb2 hb1 hE3 hT3 hF
          go_wp2_with fail
          refine (noisy_as HTN (by have := HT6.out; omega) _).mono ?_
          rintro e w7 ⟨rfl, hb7⟩
          have hb8 := hb6.trans (hb7.mono hb6.size)
          have hP8 := hP5.on hb7
          clear hP5 hb7 hb6
          go_wp2_with fail
          refine (parse_bad HR2 w7 (hE.on hb8) (hT.on hb8)).mono ?_
          rintro e w9 ⟨rfl, hb9⟩
          have hbA := hb8.trans (hb9.mono hb8.size)
          have hPA := hP8.on hb9
          have hPB := hPA.on (one w9 (.cells #[.int .i64 0, .slice none 0 0] 60))
          have hbB := hbA.alloc hbA.size (.cells #[.int .i64 0, .slice none 0 0] 60)
          have o0 := hPA.cell (j := 0) rfl
          have o1 := hPA.cell (j := 1) rfl
          have p0 := hPB.cell (j := 0) rfl
          have p1 := hPB.cell (j := 1) rfl
          clear hP8 hb9 hb8
          go_wp2_with fail
          refine (scr_same 0 HNil [] [] none none 0 0 _ (by omega) (ShO.nil _ _) (ShO.nil _ _) (by simp)).mono ?_
          rintro e wC ⟨rfl, hbC⟩
          have hbD := hbB.trans (hbC.mono hbB.size)
          clear o0 o1 p0 p1 hPA hPB hbC hbA hbB
          go_wp2_with (go_at_call 14; refine (n22_any _ _).mono ?_; rintro e w10 ⟨rfl, hw⟩; rw [hw]; clear hw)
          go_ret
          exact ⟨rfl, hbD⟩
theorem scriptNoise_at (s : ByteArray) (hs : s.size ≤ 140737488355328) (w : World) (hE : Env w) (hT : Tabs w) :
    Calls Tryz.prog 8 #[.string s] w fun e w' => e = .returned (.bool true) ∧ Below w.heap.size w w' := by
  obtain ⟨l, rfl, h1⟩ := str_list s
  exact scriptNoise_law l (by omega) w hE hT
end Go.Proofs.YtpkmekdpmkfcdaaGreatDoor.Sr

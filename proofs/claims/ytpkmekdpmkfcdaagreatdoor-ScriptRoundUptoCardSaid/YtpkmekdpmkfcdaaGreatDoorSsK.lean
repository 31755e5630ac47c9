/- Law: what Print writes Parse reads. -/
import Derived.Test.YtpkmekdpmkfcdaaGreatDoorSsJ
import Derived.Test.YtpkmekdpmkfcdaaGreatDoorSsF
namespace Go.Proofs.YtpkmekdpmkfcdaaGreatDoor.Sr
set_option linter.unusedVariables false
set_option linter.unusedSimpArgs false
open Go.RowKit Go.Proofs.YtpkmekdpmkfcdaaGreatDoor.Wd Go.Proofs.YtpkmekdpmkfcdaaGreatDoor.Px Go.Proofs.YtpkmekdpmkfcdaaGreatDoor.By Go.Proofs.YtpkmekdpmkfcdaaGreatDoor.En Go.Proofs.YtpkmekdpmkfcdaaGreatDoor.Pl Go.Proofs.YtpkmekdpmkfcdaaGreatDoor.Pf Go.Proofs.YtpkmekdpmkfcdaaGreatDoor.Sc

set_option maxRecDepth 20000 in
set_option maxHeartbeats 2000000 in
theorem copied_any (sec : Int) {l : List Opp} {N : Nat} (HN : Hid (l.length = N)) (vs : List Opv) (A : Option Addr) (c : Nat) (w : World) (hl : N ≤ 2000000) (hs : ShO w A l vs) (hL : ∀ o ∈ l, LimO o) :
    Calls Tryz.prog 25 #[.agg #[.int .i64 sec, .slice A N c]] w fun e w' => (∃ A' c' vs', e = .returned (.agg #[.int .i64 sec, .slice A' N c']) ∧ N ≤ c' ∧ ShO w' A' l vs') ∧ Below w.heap.size w w' := by
  have hb0 : Below w.heap.size w ((w.alloc (.cells #[.int .i64 sec, .slice A N c] 60)).alloc (.cells #[.int .i64 0, .slice none 0 0] 60)) := (one w _).alloc (by simp) _
  have hP0 : Blk w.heap.size #[.int .i64 sec, .slice A N c] 60 ((w.alloc (.cells #[.int .i64 sec, .slice A N c] 60)).alloc (.cells #[.int .i64 0, .slice none 0 0] 60)) := Blk.on (blk_new w _ _) (one _ _)
  have hR0 : Blk (w.heap.size + 1) #[.int .i64 0, .slice none 0 0] 60 ((w.alloc (.cells #[.int .i64 sec, .slice A N c] 60)).alloc (.cells #[.int .i64 0, .slice none 0 0] 60)) := by
    have := blk_new (w.alloc (.cells #[.int .i64 sec, .slice A N c] 60)) #[.int .i64 0, .slice none 0 0] 60
    rwa [World.size_alloc] at this
  go_enter Tryz.func25, Tryz.ntmps25
  go_upto_region 1 with fail
  generalize ((w.alloc (.cells #[.int .i64 sec, .slice A N c] 60)).alloc (.cells #[.int .i64 0, .slice none 0 0] 60)) = W0 at hb0 hP0 hR0 ⊢
  have hd : Below W0.heap.size W0 W0.drew := (Below.refl _ W0).drew
  have hP1 := hP0.on hd
  have hR1 := hR0.on hd
  have hb1 := hb0.trans (hd.mono hb0.size)
  have HS := Lib.hid (hs.on hb1)
  have HP := Lib.hid hP1
  have HR := Lib.hid hR1
  have HL := Lib.hid hL
  have p0 : W0.drew.cell? ⟨w.heap.size, 0, none⟩ = some (.int .i64 sec) := hP1.cell rfl
  have p1 : W0.drew.cell? ⟨w.heap.size, 1, none⟩ = some (.slice A N c) := hP1.cell rfl
  have hlt := hR1.lt
  clear hP0 hR0 hb0 hd hP1 hR1 hs hL
  go_region_law (first
    | (go_simp; go_at_call 57; with_reducible refine (ops_copy HN vs A c W0.drew hl HS.out HL.out).mono ?_; rintro e w3 ⟨⟨A', c', vs', rfl, hrow⟩, hb3⟩; have q0 : w3.cell? ⟨w.heap.size, 0, none⟩ = some (.int .i64 sec) := (HP.out.on hb3).cell rfl; have hR3 := HR.out.on hb3; have r0 : w3.cell? ⟨w.heap.size + 1, 0, none⟩ = some (.int .i64 0) := hR3.cell rfl; have r1 : w3.cell? ⟨w.heap.size + 1, 1, none⟩ = some (.slice none 0 0) := hR3.cell rfl; have fr := hR3.open_))
  all_goals
    have hR4 := (hR3.set 0 (.int .i64 sec)).set 1 (.slice A' N c')
    have g0 := hR4.cell (j := 0) rfl
    have g1 := hR4.cell (j := 1) rfl
    have hrow4 := (hrow.set (j := 0) hR3 (.int .i64 sec)).set (j := 1) (hR3.set 0 (.int .i64 sec)) (.slice A' N c')
    obtain ⟨h1, -, h2⟩ := hrow4.shows
    have hbz := ((hb1.trans (hb3.mono hb1.size)).setCell (p := ⟨w.heap.size + 1, 0, none⟩) (by show w.heap.size ≤ w.heap.size + 1; omega) (.int .i64 sec)).setCell (p := ⟨w.heap.size + 1, 1, none⟩) (by show w.heap.size ≤ w.heap.size + 1; omega) (.slice A' N c')
    clear hrow hrow4 hR3 hR4 r0 r1 q0 p0 p1 fr
    try go_wp2
    exact bodyPost_ret (v := .agg #[.int .i64 sec, .slice A' N c']) (by simp [results, Tryz.results25, go_sem, g0, g1]) rfl ⟨⟨_, _, _, rfl, by rw [← HN.out]; exact h2, h1⟩, hbz⟩
set_option maxRecDepth 20000 in
set_option maxHeartbeats 2000000 in
theorem scriptRound_law (sec : Int) {l : List Opp} {N : Nat} (HN : Hid (l.length = N)) (vs : List Opv) (A : Option Addr) (c : Nat) (w : World) (hE : Env w) (hT : Tabs w) (hl : N ≤ 2000000) (hs : ShO w A l vs) (hL : ∀ o ∈ l, LimO o) :
    Calls Tryz.prog 6 #[.agg #[.int .i64 sec, .slice A N c]] w fun e w' => e = .returned (.bool true) ∧ Below w.heap.size w w' := by
  have hbx := one w (.cells #[.int .i64 sec, .slice A N c] 60)
  have hF := fst_any _ (hE.on hbx) (hT.on hbx)
  have hPx : Blk w.heap.size #[.int .i64 sec, .slice A N c] 60 (w.alloc (.cells #[.int .i64 sec, .slice A N c] 60)) := blk_new w _ _
  have HL := Lib.hid hL
  have HS := Lib.hid hs
  clear hs hL
  obtain ⟨r, hr⟩ : ∃ r, printS sec l = r := ⟨_, rfl⟩
  have HR := Lib.hid hr
  go_enter Tryz.func6, Tryz.ntmps6
  go_wp2_with fail
  refine hF.mono ?_
  rintro e w1 ⟨rfl, hb1⟩
  have hP1 := hPx.on hb1
  have hb2 := hbx.trans (hb1.mono hbx.size)
  have p0 := hP1.cell (j := 0) rfl
  have p1 := hP1.cell (j := 1) rfl
  clear hF hPx hbx hb1
  go_wp2_with fail
  refine (copied_any sec HN vs A c w1 hl (HS.out.on hb2) HL.out).mono ?_
  rintro e w3 ⟨⟨A2, c2, vs2, rfl, hc2, hs2⟩, hb3⟩
  have hb4 := hb2.trans (hb3.mono hb2.size)
  have hP4 := hP1.on hb3
  have HS4 := Lib.hid (HS.out.on hb4)
  clear hb2 hb3 hP1 p0 p1
  go_wp2_with fail
  refine (print_as HR HN vs2 A2 c2 _ (hE.on hb4) (hT.on hb4) hl hc2 hs2 HL.out).mono ?_
  rintro e w5 ⟨hres, hb5⟩
  have hb6 := hb4.trans (hb5.mono hb4.size)
  have hP6 := hP4.on hb5
  have p0 := hP6.cell (j := 0) rfl
  have p1 := hP6.cell (j := 1) rfl
  have HS6 := Lib.hid (HS4.out.on hb5)
  clear hb4 hb5 hP4 hs2 HS4
  cases r with
  | error z =>
    have hres2 : e = .returned (.tuple #[.string ⟨#[]⟩, .int .i64 z]) := hres
    subst hres2
    have hz : (z != 0) = true := by rw [bne_iff_ne]; exact printS_err hr
    clear hres
    by_cases q1 : 2000 < N
    · by_cases q2 : 0 ≤ sec
      · by_cases q3 : sec ≤ 4294967295
        · have hz2 : z = 221 := by
            unfold printS at hr
            rw [if_neg (by rw [show numOk sec = true from decide_eq_true ⟨q2, q3⟩]; simp), if_pos (by rw [HN.out]; exact q1)] at hr
            injection hr with hr
            exact hr.symm
          subst hz2
          have m1 : (2000 : Int) < (N : Int) := by omega
          clear hr
          go_wp2_with (go_at_call 14; refine (n22_any _ _).mono ?_; rintro e w10 ⟨rfl, hw⟩; rw [hw]; clear hw)
          go_ret
          exact ⟨rfl, hb6⟩
        · have m1 : (2000 : Int) < (N : Int) := by omega
          clear hr
          go_wp2_with (go_at_call 14; refine (n22_any _ _).mono ?_; rintro e w10 ⟨rfl, hw⟩; rw [hw]; clear hw)
          go_ret
          exact ⟨rfl, hb6⟩
      · have m1 : (2000 : Int) < (N : Int) := by omega
        clear hr
        go_wp2_with (go_at_call 14; refine (n22_any _ _).mono ?_; rintro e w10 ⟨rfl, hw⟩; rw [hw]; clear hw)
        go_ret
        exact ⟨rfl, hb6⟩
    · have m1 : ¬ (2000 : Int) < (N : Int) := by omega
      clear hr
      go_wp2_with (go_at_call 14; refine (n22_any _ _).mono ?_; rintro e w10 ⟨rfl, hw⟩; rw [hw]; clear hw)
      go_ret
      exact ⟨rfl, hb6⟩
  | ok u =>
    have hres2 : e = .returned (.tuple #[.string ⟨u.toArray⟩, .int .i64 0]) := hres
    subst hres2
    have hback := print_back (fun o ho => (HL.out o ho).in_) hr
    have HB := Lib.hid hback.1
    have m1 : (N : Int) ≤ 2000 := by have := hback.2; rw [HN.out] at this; omega
    clear hres hr hback
    go_wp2_with (go_at_call 14; refine (n22_any _ _).mono ?_; rintro e w10 ⟨rfl, hw⟩; rw [hw]; clear hw)
    refine (parse_ok HB HN w5 (hE.on hb6) (hT.on hb6)).mono ?_
    rintro e w7 ⟨⟨A3, c3, vs3, rfl, hc3, hs3, hrow⟩, hb7⟩
    have hb8 := hb6.trans (hb7.mono hb6.size)
    have hP8 := hP6.on hb7
    have hs8 := HS6.out.on hb7
    have hP9 := hP8.on (one w7 (.cells #[.int .i64 sec, .slice A3 N c3] 60))
    have hs9 := hs8.on (one w7 (.cells #[.int .i64 sec, .slice A3 N c3] 60))
    have ht9 := hs3.on (one w7 (.cells #[.int .i64 sec, .slice A3 N c3] 60))
    have hb9 := hb8.alloc hb8.size (.cells #[.int .i64 sec, .slice A3 N c3] 60)
    have o0 := hP8.cell (j := 0) rfl
    have o1 := hP8.cell (j := 1) rfl
    have n0 := hP9.cell (j := 0) rfl
    have n1 := hP9.cell (j := 1) rfl
    clear hrow hs3 hs8 hb7 hb8 hP6 p0 p1
    go_wp2_with fail
    refine (scr_same sec HN vs3 vs A3 A c3 c _ hl ht9 hs9 HL.out).mono ?_
    rintro e wA ⟨rfl, hbA⟩
    have hbB := hb9.trans (hbA.mono hb9.size)
    have hPA := hP9.on hbA
    have a1 := hPA.cell (j := 1) rfl
    clear o0 o1 n0 n1 hP8 hP9 hPA hbA hb9
    go_wp2_with (go_at_call 14; refine (n22_any _ _).mono ?_; rintro e w10 ⟨rfl, hw⟩; rw [hw]; clear hw)
    go_ret
    exact ⟨rfl, hbB⟩
end Go.Proofs.YtpkmekdpmkfcdaaGreatDoor.Sr

/- Law: what was read is printed as a text that is read alike. -/
import Derived.Test.YtpkmekdpmkfcdaaGreatDoorSsD
namespace Go.Proofs.YtpkmekdpmkfcdaaGreatDoor.Sr
set_option linter.unusedVariables false
set_option linter.unusedSimpArgs false
open Go.RowKit Go.Proofs.YtpkmekdpmkfcdaaGreatDoor.Wd Go.Proofs.YtpkmekdpmkfcdaaGreatDoor.Px Go.Proofs.YtpkmekdpmkfcdaaGreatDoor.By Go.Proofs.YtpkmekdpmkfcdaaGreatDoor.En Go.Proofs.YtpkmekdpmkfcdaaGreatDoor.Pl Go.Proofs.YtpkmekdpmkfcdaaGreatDoor.Pf Go.Proofs.YtpkmekdpmkfcdaaGreatDoor.Sc

theorem print_as {sec : Int} {l : List Opp} {N : Nat} {r : Except Int (List UInt8)} (hr : Hid (printS sec l = r)) (HN : Hid (l.length = N)) (vs : List Opv) (A : Option Addr) (cc : Nat) (w : World) (hE : Env w) (hT : Tabs w) (hl : N ≤ 2000000) (hc : N ≤ cc) (hs : ShO w A l vs) (hL : ∀ o ∈ l, LimO o) :
    Calls Tryz.prog 24 #[.agg #[.int .i64 sec, .slice A N cc]] w fun e w' => TextR r e ∧ Below w.heap.size w w' := by
  have hn := HN.out
  subst hn
  have := print_any sec l vs A cc w hE hT hl hc hs hL
  rwa [hr.out] at this
theorem printS_err {sec : Int} {l : List Opp} {z : Int} (h : printS sec l = .error z) : z ≠ 0 := by
  unfold printS at h
  split at h
  · injection h with h; subst h; decide
  · split at h
    · injection h with h; subst h; decide
    · split at h
      · rename_i e2
        injection h with h; subst h
        obtain ⟨a, -, ha⟩ := mapE_err e2
        exact stepT_err ha
      · split at h
        · injection h with h; subst h; decide
        · cases h
set_option maxRecDepth 20000 in
set_option maxHeartbeats 2000000 in
theorem scriptCanon_law (t : List UInt8) (w : World) (hE : Env w) (hT : Tabs w) :
    Calls Tryz.prog 7 #[.string ⟨t.toArray⟩] w fun e w' => e = .returned (.bool true) ∧ Below w.heap.size w w' := by
  have hF := fst_any w hE hT
  obtain ⟨r, hr⟩ : ∃ r, parseS t = r := ⟨_, rfl⟩
  have HR := Lib.hid hr
  cases r with
  | error q =>
    obtain ⟨no, x⟩ := q
    have hx : (x != 0) = true := by rw [bne_iff_ne]; exact parseS_err hr
    clear hr
    go_enter Tryz.func7, Tryz.ntmps7
    go_wp2_with (first
      | (go_at_call 10; refine hF.mono ?_; rintro e w1 ⟨rfl, hb1⟩)
      | (go_at_call 14; refine (n22_any _ _).mono ?_; rintro e w10 ⟨rfl, hw⟩; rw [hw]; clear hw)
      | (go_at_call 18; refine (parse_as HR w1 (hE.on hb1) (hT.on hb1)).mono ?_; rintro e w2 ⟨hres, hb2⟩; have hres2 : e = .returned (.tuple #[.agg #[.int .i64 0, .slice none 0 0], .int .i64 (no : Int), .int .i64 x]) := hres; subst hres2; clear hres))
    go_ret
    exact ⟨rfl, (hb1.trans (hb2.mono hb1.size)).alloc (by have := (hb1.trans (hb2.mono hb1.size)).size; omega) _⟩
  | ok q =>
    obtain ⟨n, l⟩ := q
    have hlim := parse_lim hr
    have hfair := parse_fair hr
    obtain ⟨N, hN⟩ : ∃ N, l.length = N := ⟨_, rfl⟩
    have HN := Lib.hid hN
    have hN2 : N ≤ 2000000 := by omega
    have HL := Lib.hid hlim.1
    clear hr
    rcases hfair.2.2 with ⟨u, hu⟩ | hu
    · have HU := Lib.hid hu
      have HB := Lib.hid (print_back hfair.1 hu).1
      have HK := Lib.hid hfair.1
      clear hu hfair hlim
      go_enter Tryz.func7, Tryz.ntmps7
      go_wp2_with (go_at_call 14; refine (n22_any _ _).mono ?_; rintro e w10 ⟨rfl, hw⟩; rw [hw]; clear hw)
      refine hF.mono ?_
      rintro e w1 ⟨rfl, hb1⟩
      go_wp2_with (go_at_call 14; refine (n22_any _ _).mono ?_; rintro e w10 ⟨rfl, hw⟩; rw [hw]; clear hw)
      refine (parse_as HR w1 (hE.on hb1) (hT.on hb1)).mono ?_
      rintro e w2 ⟨⟨A, c, vs, rfl, hrow⟩, hb2⟩
      rw [hN] at hrow ⊢
      have hb3 := (hb1.trans (hb2.mono hb1.size)).alloc (hb1.trans (hb2.mono hb1.size)).size (.cells #[.int .i64 n, .slice A N c] 60)
      obtain ⟨hs2, -, hc2⟩ := hrow.shows
      rw [hN] at hc2
      have hs3 := hs2.on (one w2 (.cells #[.int .i64 n, .slice A N c] 60))
      have hP3 : Blk w2.heap.size #[.int .i64 n, .slice A N c] 60 (w2.alloc (.cells #[.int .i64 n, .slice A N c] 60)) := blk_new w2 _ _
      have hsz2 := (hb1.trans (hb2.mono hb1.size)).size
      clear hrow hs2 hb2 hb1 hN
      go_wp2_with (go_at_call 14; refine (n22_any _ _).mono ?_; rintro e w10 ⟨rfl, hw⟩; rw [hw]; clear hw)
      refine (print_as HU HN vs A c _ (hE.on hb3) (hT.on hb3) hN2 hc2 hs3 HL.out).mono ?_
      rintro e w4 ⟨hres, hb4⟩
      have hres2 : e = .returned (.tuple #[.string ⟨u.toArray⟩, .int .i64 0]) := hres
      subst hres2
      have hb5 := hb3.trans (hb4.mono hb3.size)
      have hP4 := hP3.on hb4
      have hs4 := hs3.on hb4
      clear hres hb4 hP3 hs3 hb3
      go_wp2_with (go_at_call 14; refine (n22_any _ _).mono ?_; rintro e w10 ⟨rfl, hw⟩; rw [hw]; clear hw)
      refine (parse_as HB w4 (hE.on hb5) (hT.on hb5)).mono ?_
      rintro e w6 ⟨⟨A2, c2, vs2, rfl, hrow2⟩, hb6⟩
      rw [HN.out] at hrow2 ⊢
      have hb7 := hb5.trans (hb6.mono hb5.size)
      have hP6 := hP4.on hb6
      have hs6 := hs4.on hb6
      obtain ⟨ht6, -, hd2⟩ := hrow2.shows
      rw [HN.out] at hd2
      have hP7 := hP6.on (one w6 (.cells #[.int .i64 n, .slice A2 N c2] 60))
      have hQ7 : Blk w6.heap.size #[.int .i64 n, .slice A2 N c2] 60 (w6.alloc (.cells #[.int .i64 n, .slice A2 N c2] 60)) := blk_new w6 _ _
      have hs7 := hs6.on (one w6 (.cells #[.int .i64 n, .slice A2 N c2] 60))
      have ht7 := ht6.on (one w6 (.cells #[.int .i64 n, .slice A2 N c2] 60))
      have hb8 := hb7.alloc hb7.size (.cells #[.int .i64 n, .slice A2 N c2] 60)
      have p0 := hP7.cell (j := 0) rfl
      have p1 := hP7.cell (j := 1) rfl
      have o0 := hP6.cell (j := 0) rfl
      have o1 := hP6.cell (j := 1) rfl
      clear hrow2 hs6 ht6 hb6 hP4 hs4 hb5 hb7
      go_wp2_with (go_at_call 14; refine (n22_any _ _).mono ?_; rintro e w10 ⟨rfl, hw⟩; rw [hw]; clear hw)
      refine (scr_same n HN vs2 vs A2 A c2 c _ hN2 ht7 hs7 HL.out).mono ?_
      rintro e w9 ⟨rfl, hb9⟩
      have hb10 := hb8.trans (hb9.mono hb8.size)
      have hQ9 := hQ7.on hb9
      have ht9 := ht7.on hb9
      have q0 := hQ9.cell (j := 0) rfl
      have q1 := hQ9.cell (j := 1) rfl
      clear hb9 hb8 hQ7 ht7 hs7 hP6 hP7 p0 p1 o0 o1
      go_wp2_with (go_at_call 14; refine (n22_any _ _).mono ?_; rintro e w10 ⟨rfl, hw⟩; rw [hw]; clear hw)
      refine (print_as HU HN vs2 A2 c2 _ (hE.on hb10) (hT.on hb10) hN2 hd2 ht9 HL.out).mono ?_
      rintro e w11 ⟨hres, hb11⟩
      have hres2 : e = .returned (.tuple #[.string ⟨u.toArray⟩, .int .i64 0]) := hres
      subst hres2
      clear hres
      go_wp2_with (go_at_call 14; refine (n22_any _ _).mono ?_; rintro e w10 ⟨rfl, hw⟩; rw [hw]; clear hw)
      go_ret
      exact ⟨rfl, hb10.trans (hb11.mono hb10.size)⟩
    · have HU := Lib.hid hu
      clear hu hfair hlim
      go_enter Tryz.func7, Tryz.ntmps7
      go_wp2_with (go_at_call 14; refine (n22_any _ _).mono ?_; rintro e w10 ⟨rfl, hw⟩; rw [hw]; clear hw)
      refine hF.mono ?_
      rintro e w1 ⟨rfl, hb1⟩
      go_wp2_with (go_at_call 14; refine (n22_any _ _).mono ?_; rintro e w10 ⟨rfl, hw⟩; rw [hw]; clear hw)
      refine (parse_as HR w1 (hE.on hb1) (hT.on hb1)).mono ?_
      rintro e w2 ⟨⟨A, c, vs, rfl, hrow⟩, hb2⟩
      rw [hN] at hrow ⊢
      have hb3 := (hb1.trans (hb2.mono hb1.size)).alloc (hb1.trans (hb2.mono hb1.size)).size (.cells #[.int .i64 n, .slice A N c] 60)
      obtain ⟨hs2, -, hc2⟩ := hrow.shows
      rw [hN] at hc2
      have hs3 := hs2.on (one w2 (.cells #[.int .i64 n, .slice A N c] 60))
      clear hrow hs2 hb2 hb1 hN
      go_wp2_with (go_at_call 14; refine (n22_any _ _).mono ?_; rintro e w10 ⟨rfl, hw⟩; rw [hw]; clear hw)
      refine (print_as HU HN vs A c _ (hE.on hb3) (hT.on hb3) hN2 hc2 hs3 HL.out).mono ?_
      rintro e w4 ⟨hres, hb4⟩
      have hres2 : e = .returned (.tuple #[.string ⟨#[]⟩, .int .i64 221]) := hres
      subst hres2
      clear hres
      go_wp2_with (go_at_call 14; refine (n22_any _ _).mono ?_; rintro e w10 ⟨rfl, hw⟩; rw [hw]; clear hw)
      go_ret
      exact ⟨rfl, hb3.trans (hb4.mono hb3.size)⟩
theorem scriptCanon_at (s : ByteArray) (w : World) (hE : Env w) (hT : Tabs w) :
    Calls Tryz.prog 7 #[.string s] w fun e w' => e = .returned (.bool true) ∧ Below w.heap.size w w' := by
  obtain ⟨l, rfl, h1⟩ := str_list s
  exact scriptCanon_law l w hE hT
end Go.Proofs.YtpkmekdpmkfcdaaGreatDoor.Sr

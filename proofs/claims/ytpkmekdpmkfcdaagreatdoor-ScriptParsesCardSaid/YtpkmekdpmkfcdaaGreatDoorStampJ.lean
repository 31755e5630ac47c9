/- Contract: a stamp out of its text, by the reference. -/
import Derived.Test.YtpkmekdpmkfcdaaGreatDoorStampI
namespace Go.Proofs.YtpkmekdpmkfcdaaGreatDoor.St
open Go.RowKit Go.Proofs.YtpkmekdpmkfcdaaGreatDoor.Wd Go.Proofs.YtpkmekdpmkfcdaaGreatDoor.Pl Go.Proofs.YtpkmekdpmkfcdaaGreatDoor.En Go.Proofs.YtpkmekdpmkfcdaaGreatDoor.By

theorem one (w : World) (o : Obj) : Below w.heap.size w (w.alloc o) := (Below.refl _ w).alloc (Nat.le_refl _) o

theorem rparse_len (t : ByteArray) (w : World) (ht : t.size ≤ 140737488355328) (h : ¬ (11 ≤ t.size ∧ t.size ≤ 29)) :
    Calls Tryz.prog 215 #[.string t] w fun e w' => e = .returned (ofPrs (prs t.data.toList)) ∧ Below w.heap.size w w' := by
  have hnone : prs t.data.toList = none := prs_first (by simpa using h)
  have HN := Lib.hid hnone
  clear hnone
  by_cases hs : (t.size : Int) - 10 < 1
  · go_enter Tryz.func215, Tryz.ntmps215
    go_wp2
    exact bodyPost_ret (v := .tuple #[.agg #[.int .i64 0, .int .i64 0], .int .i64 60]) (by simp [results, Tryz.results215, go_sem]) rfl ⟨by rw [HN.out]; rfl, one _ _⟩
  · have hs2 : 19 < (t.size : Int) - 10 := by omega
    go_enter Tryz.func215, Tryz.ntmps215
    go_wp2
    exact bodyPost_ret (v := .tuple #[.agg #[.int .i64 0, .int .i64 0], .int .i64 60]) (by simp [results, Tryz.results215, go_sem]) rfl ⟨by rw [HN.out]; rfl, one _ _⟩

theorem rparse_point (t : ByteArray) (a : Nat) (w : World) (hta : t.size = a + 10) (h1 : 1 ≤ a) (h2 : a ≤ 19) (h : ¬ (t[a]'(by omega)) = 46) :
    Calls Tryz.prog 215 #[.string t] w fun e w' => e = .returned (ofPrs (prs t.data.toList)) ∧ Below w.heap.size w w' := by
  have hnone : prs t.data.toList = none := prs_second (a := a) (by simpa using hta) (get_at (by omega)) h
  have HN := Lib.hid hnone
  have hlt : a < t.size := by omega
  have hn : ((t[a]'hlt).toNat : Int) ≠ 46 := fun e => h (UInt8.toNat_inj.1 (by show _ = 46; omega))
  have hn2 : (((t[a]'hlt).toNat : Int) != 46) = true := by simpa using hn
  have hat : (t.size : Int) - 10 = (a : Int) := by omega
  have hb1 : ¬ (a : Int) < 1 := by omega
  have hb2 : ¬ 19 < (a : Int) := by omega
  have hb3 : (a : Int) < (t.size : Int) := by omega
  clear hnone hta hn h
  go_enter Tryz.func215, Tryz.ntmps215
  go_wp2
  exact bodyPost_ret (v := .tuple #[.agg #[.int .i64 0, .int .i64 0], .int .i64 60]) (by simp [results, Tryz.results215, go_sem]) rfl ⟨by rw [HN.out]; rfl, one _ _⟩

set_option maxHeartbeats 2000000 in
theorem rparse_rest (t : ByteArray) (a : Nat) (w : World) (hta : t.size = a + 10) (h1 : 1 ≤ a) (h2 : a ≤ 19) (h : (t[a]'(by omega)) = 46) :
    Calls Tryz.prog 215 #[.string t] w fun e w' => e = .returned (ofPrs (prs t.data.toList)) ∧ Below w.heap.size w w' := by
  have hlt : a < t.size := by omega
  have hls : t.data.toList.length = t.size := by simp
  have hst : Rp t.data.toList a 0 0 0 := Rp.start (by rw [hls]; exact hta) h1 h2 (by rw [get_at hlt, h])
  have HST := Lib.hid hst
  have hn2 : (((t[a]'hlt).toNat : Int) != 46) = false := by rw [h]; rfl
  have hat : (t.size : Int) - 10 = (a : Int) := by omega
  have hb1 : ¬ (a : Int) < 1 := by omega
  have hb2 : ¬ 19 < (a : Int) := by omega
  have hb3 : (a : Int) < (t.size : Int) := by omega
  have ht29 : t.size ≤ 29 := by omega
  have HTA := Lib.hid hta
  have HLS := Lib.hid hls
  clear hst hta hls h
  go_enter Tryz.func215, Tryz.ntmps215
  go_wp2
  clear hn2 hat hb1 hb2
  go_loop [5, 6, 7] (fun s n i => ∃ (k : Nat) (X Y : Int), k ≤ t.size ∧ i = .int .i64 k ∧ s = .int .i64 X ∧ n = .int .i64 Y ∧ Hid (Rp t.data.toList a k X Y)) (fun _ _ i => t.size - (intOf i).toNat)
  case atStart => exact ⟨0, 0, 0, Nat.zero_le _, rfl, rfl, rfl, HST⟩
  case round =>
    obtain ⟨k, X, Y, hk, rfl, rfl, rfl, HR⟩ := hrel
    have hX0 := HR.out.X0
    have hX1 := HR.out.le
    obtain ⟨hY0, hY1⟩ := HR.out.Y0 (by rw [HLS.out]; exact hk)
    by_cases hkt : k < t.size
    · have hkI : (k : Int) < (t.size : Int) := by omega
      by_cases hka : k = a
      · have e1 : ((k : Int) == (a : Int)) = true := by simp [hka]
        have HN2 := Lib.hid (show Rp t.data.toList a (k + 1) X Y by subst hka; exact HR.out.skip)
        clear hka
        go_wp2
        go_round
        case rel => exact ⟨k + 1, X, Y, by omega, by go_num, rfl, rfl, HN2⟩
        case measure => simp [intOf]; omega
      · have e1 : ((k : Int) == (a : Int)) = false := by simp; omega
        have hgt := get_at hkt
        cases hd : isDig (t[k]'hkt) with
        | false =>
          have hnone := HR.out.bad hka hgt hd
          have HN := Lib.hid hnone
          obtain ⟨x, hx⟩ : ∃ x : Int, ((t[k]'hkt).toNat : Int) = x := ⟨_, rfl⟩
          have hxb : 0 ≤ x ∧ x ≤ 255 := by have := (t[k]'hkt).toNat_lt; omega
          have hxd : x < 48 ∨ 57 < x := by
            unfold isDig at hd
            simp only [decide_eq_false_iff_not] at hd
            omega
          clear hnone hd hgt
          rcases hxd with hxl | hxl
          · have q1 : x - 48 < 0 := by omega
            go_wp2
            exact bodyPost_ret (v := .tuple #[.agg #[.int .i64 0, .int .i64 0], .int .i64 60]) (by simp [results, Tryz.results215, go_sem]) rfl ⟨by rw [HN.out]; rfl, one _ _⟩
          · have q1 : ¬ x - 48 < 0 := by omega
            have q2 : 9 < x - 48 := by omega
            go_wp2
            exact bodyPost_ret (v := .tuple #[.agg #[.int .i64 0, .int .i64 0], .int .i64 60]) (by simp [results, Tryz.results215, go_sem]) rfl ⟨by rw [HN.out]; rfl, one _ _⟩
        | true =>
          obtain ⟨x, hx⟩ : ∃ x : Int, ((t[k]'hkt).toNat : Int) = x := ⟨_, rfl⟩
          have hd2 := hd
          unfold isDig at hd2
          simp only [decide_eq_true_eq] at hd2
          have q1 : ¬ x - 48 < 0 := by omega
          have q2 : ¬ 9 < x - 48 := by omega
          have q3 : 0 ≤ x - 48 := by omega
          have q4 : x - 48 ≤ 9 := by omega
          clear hd2
          by_cases hkl : k < a
          · have hklI : (k : Int) < (a : Int) := by omega
            by_cases hov : X * 10 + (x - 48) ≤ 9223372036854775807
            · have hs := HR.out.low hkl hgt hd (by rw [hx]; exact hov)
              rw [hx] at hs
              have HS := Lib.hid hs
              have q5 : ¬ (9223372036854775807 - (x - 48)) / 10 < X := by omega
              have q6 : X * 10 ≤ 9223372036854775807 := by omega
              clear hs hgt hd
              go_wp2
              go_round
              case rel => exact ⟨k + 1, _, Y, by omega, by go_num, rfl, rfl, HS⟩
              case measure => simp [intOf]; omega
            · have hnone := HR.out.over hkl hgt hd (by rw [hx]; omega)
              have HN := Lib.hid hnone
              have q5 : (9223372036854775807 - (x - 48)) / 10 < X := by omega
              clear hnone hgt hd hov
              go_wp2
              exact bodyPost_ret (v := .tuple #[.agg #[.int .i64 0, .int .i64 0], .int .i64 60]) (by simp [results, Tryz.results215, go_sem]) rfl ⟨by rw [HN.out]; rfl, one _ _⟩
          · have hklI : ¬ (k : Int) < (a : Int) := by omega
            have hs := HR.out.high (by omega) hgt hd
            rw [hx] at hs
            have HS := Lib.hid hs
            clear hs hgt hd
            go_wp2
            go_round
            case rel => exact ⟨k + 1, X, _, by omega, by go_num, rfl, rfl, HS⟩
            case measure => simp [intOf]; omega
    · obtain rfl : k = t.size := by omega
      have hvv : vld X Y = true := by rw [vld_iff]; omega
      have HVV := Lib.hid hvv
      have hE := (HLS.out.symm ▸ HR.out : Rp t.data.toList a t.data.toList.length X Y)
      have HE := Lib.hid hE
      clear hvv hE HR
      by_cases hpt : prt X Y = t.data.toList
      · have hsome : prs t.data.toList = some (X, Y) := prs_yes hX1 (by intro e; rw [e] at HLS; have := HLS.out; simp at this; omega) hpt
        have HN := Lib.hid hsome
        have hte : (prt X Y == t.toList) = true := by rw [Lib.toList_data, hpt]; simp
        clear hpt hsome
        go_wp2_with fail
        refine (rprint_yes X Y _ hX0 hX1 hY0 hY1).mono ?_
        rintro e w4 ⟨rfl, hb4⟩
        have k0 := keepc hb4 (b := w.heap.size) (o := 0) (v := .int .i64 0) (by go_simp)
        have k1 := keepc hb4 (b := w.heap.size) (o := 1) (v := .int .i64 0) (by go_simp)
        have kf := keepf hb4 (b := w.heap.size) (by simp; omega) (fun o => by go_simp)
        have k2 := keepc hb4 (b := w.heap.size + 1) (o := 0) (v := .int .i64 X) (by go_simp)
        have k3 := keepc hb4 (b := w.heap.size + 1) (o := 1) (v := .int .i64 Y) (by go_simp)
        have hbl4 : Below w.heap.size w w4 := (two w _ _).trans (hb4.mono (by simp; omega))
        clear hb4
        go_wp2
        exact bodyPost_ret (v := .tuple #[.agg #[.int .i64 X, .int .i64 Y], .int .i64 0]) (by simp [results, Tryz.results215, go_sem, *]) rfl ⟨by rw [HN.out]; rfl, (hbl4.setCell (Nat.le_refl _) _).setCell (Nat.le_refl _) _⟩
      · have hnone : prs t.data.toList = none := HE.out.no hpt
        have HN := Lib.hid hnone
        have hte : (prt X Y == t.toList) = false := by rw [Lib.toList_data]; simpa using hpt
        clear hpt hnone
        go_wp2_with fail
        refine (rprint_yes X Y _ hX0 hX1 hY0 hY1).mono ?_
        rintro e w4 ⟨rfl, hb4⟩
        have k0 := keepc hb4 (b := w.heap.size) (o := 0) (v := .int .i64 0) (by go_simp)
        have k1 := keepc hb4 (b := w.heap.size) (o := 1) (v := .int .i64 0) (by go_simp)
        have kf := keepf hb4 (b := w.heap.size) (by simp; omega) (fun o => by go_simp)
        have hbl4 : Below w.heap.size w w4 := (two w _ _).trans (hb4.mono (by simp; omega))
        clear hb4
        go_wp2
        exact bodyPost_ret (v := .tuple #[.agg #[.int .i64 0, .int .i64 0], .int .i64 60]) (by simp [results, Tryz.results215, go_sem, *]) rfl ⟨by rw [HN.out]; rfl, (hbl4.setCell (Nat.le_refl _) _).setCell (Nat.le_refl _) _⟩

theorem rparse_any (t : ByteArray) (w : World) (ht : t.size ≤ 140737488355328) :
    Calls Tryz.prog 215 #[.string t] w fun e w' => e = .returned (ofPrs (prs t.data.toList)) ∧ Below w.heap.size w w' := by
  by_cases h : 11 ≤ t.size ∧ t.size ≤ 29
  · obtain ⟨a, ha⟩ : ∃ a, t.size = a + 10 := ⟨t.size - 10, by omega⟩
    by_cases h46 : (t[a]'(by omega)) = 46
    · exact rparse_rest t a w ha (by omega) (by omega) h46
    · exact rparse_point t a w ha (by omega) (by omega) h46
  · exact rparse_len t w ht h

end Go.Proofs.YtpkmekdpmkfcdaaGreatDoor.St

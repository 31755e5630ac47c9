/- Laws: the first fault is told. -/
import Derived.Test.YtpkmekdpmkfcdaaGreatDoorSmI
import Derived.Test.YtpkmekdpmkfcdaaGreatDoorSsE
namespace Go.Proofs.YtpkmekdpmkfcdaaGreatDoor.Sr
set_option linter.unusedVariables false
set_option linter.unusedSimpArgs false
open Go.RowKit Go.Proofs.YtpkmekdpmkfcdaaGreatDoor.Wd Go.Proofs.YtpkmekdpmkfcdaaGreatDoor.Px Go.Proofs.YtpkmekdpmkfcdaaGreatDoor.By Go.Proofs.YtpkmekdpmkfcdaaGreatDoor.En Go.Proofs.YtpkmekdpmkfcdaaGreatDoor.Pl Go.Proofs.YtpkmekdpmkfcdaaGreatDoor.Pf Go.Proofs.YtpkmekdpmkfcdaaGreatDoor.Sc

theorem lineS_err {st : Option Int × List Opp} {line : List UInt8} {e : Int} (h : lineS st line = .error e) : e ≠ 0 := by
  unfold lineS at h
  split at h
  · injection h with h; subst h; decide
  · cases h
  · split at h
    · split at h
      · rename_i e2
        injection h with h; subst h; exact first_err e2
      · cases h
    · split at h
      · injection h with h; subst h; decide
      · split at h
        · rename_i e2
          injection h with h; subst h; exact stepS_err e2
        · cases h
theorem goL_err : ∀ (ls : List (List UInt8)) (st : Option Int × List Opp) (no : Nat) (p : Nat × Int), goL st no ls = .error p → p.2 ≠ 0
  | [], st, no, p, h => by rw [goL] at h; cases h
  | l :: r, st, no, p, h => by
    rw [goL] at h
    split at h
    · rename_i e2
      injection h with h; subst h; exact lineS_err e2
    · exact goL_err r _ _ p h
theorem parseS_err {t : List UInt8} {no : Nat} {e : Int} (h : parseS t = .error (no, e)) : e ≠ 0 := by
  unfold parseS at h
  split at h
  · injection h with h; injection h with h1 h2; subst h2; decide
  · split at h
    · rename_i p e2
      injection h with h; subst h; exact goL_err _ _ _ _ e2
    · injection h with h; injection h with h1 h2; subst h2; decide
    · cases h
theorem parse_as {t : List UInt8} {r : Except (Nat × Int) (Int × List Opp)} (hr : Hid (parseS t = r)) (w : World) (hE : Env w) (hT : Tabs w) :
    Calls Tryz.prog 18 #[.string ⟨t.toArray⟩] w fun e w' => ParseR r w e w' ∧ Below w.heap.size w w' := by
  have := parse_any t w hE hT
  rwa [hr.out] at this
theorem parse_ok {t : List UInt8} {n : Int} {l : List Opp} {N : Nat} (h : Hid (parseS t = .ok (n, l))) (hN : Hid (l.length = N)) (w : World) (hE : Env w) (hT : Tabs w) :
    Calls Tryz.prog 18 #[.string ⟨t.toArray⟩] w fun e w' => (∃ A c vs, e = .returned (.tuple #[.agg #[.int .i64 n, .slice A N c], .int .i64 0, .int .i64 0]) ∧ N ≤ c ∧ ShO w' A l vs ∧ ORow w.heap.size (.slice A N c) l vs w') ∧ Below w.heap.size w w' := by
  have hn := hN.out
  subst hn
  refine (parse_as h w hE hT).mono ?_
  rintro e w2 ⟨⟨A, c, vs, he, hrow⟩, hb2⟩
  obtain ⟨h1, -, h2⟩ := hrow.shows
  exact ⟨⟨A, c, vs, he, h2, h1, hrow⟩, hb2⟩
theorem parse_bad {t : List UInt8} {no : Nat} {x : Int} (h : Hid (parseS t = .error (no, x))) (w : World) (hE : Env w) (hT : Tabs w) :
    Calls Tryz.prog 18 #[.string ⟨t.toArray⟩] w fun e w' => e = .returned (.tuple #[.agg #[.int .i64 0, .slice none 0 0], .int .i64 (no : Int), .int .i64 x]) ∧ Below w.heap.size w w' := parse_as h w hE hT
set_option maxRecDepth 20000 in
set_option maxHeartbeats 2000000 in
theorem scriptFault_law (t b : List UInt8) (ht : t.length ≤ 140737488355328) (hb : b.length ≤ 140737488355328) (w : World) (hE : Env w) (hT : Tabs w) :
    Calls Tryz.prog 9 #[.string ⟨t.toArray⟩, .string ⟨b.toArray⟩] w fun e w' => e = .returned (.bool true) ∧ Below w.heap.size w w' := by
  have hF := fst_any w hE hT
  obtain ⟨S, hS⟩ : ∃ S : Int, (t.length : Int) + (b.length : Int) = S := ⟨_, rfl⟩
  have s1 : IntKind.i64.wrap ((t.length : Int) + (b.length : Int)) = S := by rw [hS]; exact IntWalk.i64_in _ ⟨by omega, by omega⟩
  by_cases hs : 1048576 ≤ t.length + b.length
  · have s2 : (1048576 : Int) ≤ S := by omega
    clear hS hs
    go_enter Tryz.func9, Tryz.ntmps9
    go_wp2_with (go_at_call 10; refine hF.mono ?_; rintro e w1 ⟨rfl, hb1⟩)
    go_ret
    exact ⟨rfl, hb1⟩
  · have s2 : ¬ (1048576 : Int) ≤ S := by omega
    clear hS
    have HS := Lib.hid hs
    clear hs
    obtain ⟨r, hr⟩ : ∃ r, parseS t = r := ⟨_, rfl⟩
    have HR := Lib.hid hr
    cases r with
    | ok q =>
      obtain ⟨n, l⟩ := q
      clear hr
      go_enter Tryz.func9, Tryz.ntmps9
      go_wp2_with fail
      refine hF.mono ?_
      rintro e w1 ⟨rfl, hb1⟩
      go_wp2_with fail
      refine (parse_ok HR (Lib.hid rfl) w1 (hE.on hb1) (hT.on hb1)).mono ?_
      rintro e w2 ⟨⟨A, c, vs, rfl, hc, hs, hrow⟩, hb2⟩
      clear hrow hs hF
      have hb3 := hb1.trans (hb2.mono hb1.size)
      have hz := hb3.size
      clear hb1 hb2
      go_wp2_with (go_at_call 14; refine (n22_any _ _).mono ?_; rintro e w10 ⟨rfl, hw⟩; rw [hw]; clear hw)
      go_ret
      exact ⟨rfl, hb3.alloc hz _⟩
    | error q =>
      obtain ⟨no, x⟩ := q
      have hx : (x == 0) = false := by rw [beq_eq_false_iff_ne]; exact parseS_err hr
      by_cases h0 : no = 0
      · subst h0
        clear hr
        go_enter Tryz.func9, Tryz.ntmps9
        go_wp2_with fail
        refine hF.mono ?_
        rintro e w1 ⟨rfl, hb1⟩
        go_wp2_with fail
        refine (parse_bad HR w1 (hE.on hb1) (hT.on hb1)).mono ?_
        rintro e w2 ⟨rfl, hb2⟩
        have hb3 := hb1.trans (hb2.mono hb1.size)
        have hz := hb3.size
        clear hb1 hb2 hF
        go_wp2_with (go_at_call 14; refine (n22_any _ _).mono ?_; rintro e w10 ⟨rfl, hw⟩; rw [hw]; clear hw)
        go_ret
        exact ⟨rfl, hb3.alloc hz _⟩
      · have h0' : ((no : Int) == 0) = false := by rw [beq_eq_false_iff_ne]; omega
        have HR2 : Hid (parseS (t ++ 10 :: b) = .error (no, x)) := Lib.hid (parse_fault hr h0 (by have := HS.out; omega))
        obtain ⟨t1, ht1⟩ : ∃ t1, t ++ [10] = t1 := ⟨_, rfl⟩
        obtain ⟨t2, ht2⟩ : ∃ t2, t1 ++ b = t2 := ⟨_, rfl⟩
        have hcat1 : (⟨t.toArray⟩ ++ ⟨#[10]⟩ : ByteArray) = ⟨t1.toArray⟩ := by rw [← ht1]; exact ByteArray.mk_append_mk _ _
        have hcat2 : (⟨t1.toArray⟩ ++ ⟨b.toArray⟩ : ByteArray) = ⟨t2.toArray⟩ := by rw [← ht2]; exact ByteArray.mk_append_mk _ _
        have hl1 : t1.length ≤ 1048577 := by rw [← ht1, List.length_append, List.length_singleton]; have := HS.out; omega
        have ht3 : t.length ≤ 1048576 := by have := HS.out; omega
        have hb3 : b.length ≤ 1048576 := by have := HS.out; omega
        rw [show t ++ 10 :: b = t2 by rw [← ht2, ← ht1]; simp] at HR2
        clear hr ht1 ht2 ht hb
        go_enter Tryz.func9, Tryz.ntmps9
        go_wp2_with fail
        refine hF.mono ?_
        rintro e w1 ⟨rfl, hb1⟩
        go_wp2_with fail
        refine (parse_bad HR w1 (hE.on hb1) (hT.on hb1)).mono ?_
        rintro e w2 ⟨rfl, hb2⟩
        have hb4 := hb1.trans (hb2.mono hb1.size)
        have hb5 := hb4.alloc hb4.size (.cells #[.int .i64 0, .slice none 0 0] 60)
        have hz := hb4.size
        clear hb1 hb2 hF
        go_wp2_with (go_at_call 14; refine (n22_any _ _).mono ?_; rintro e w10 ⟨rfl, hw⟩; rw [hw]; clear hw)
        refine (parse_bad HR2 _ (hE.on hb5) (hT.on hb5)).mono ?_
        rintro e w3 ⟨rfl, hb6⟩
        have hb7 := hb5.trans (hb6.mono hb5.size)
        have hz7 := hb7.size
        clear hb6 hb5 hcat1 hcat2
        go_wp2_with (go_at_call 14; refine (n22_any _ _).mono ?_; rintro e w10 ⟨rfl, hw⟩; rw [hw]; clear hw)
        go_ret
        exact ⟨rfl, hb7.alloc hz7 _⟩
theorem str_list (s : ByteArray) : ∃ l : List UInt8, s = ⟨l.toArray⟩ ∧ l.length = s.size := ⟨s.data.toList, by cases s; simp, by cases s; simp [ByteArray.size]⟩
theorem scriptFault_at (s b : ByteArray) (hs : s.size ≤ 140737488355328) (hb : b.size ≤ 140737488355328) (w : World) (hE : Env w) (hT : Tabs w) :
    Calls Tryz.prog 9 #[.string s, .string b] w fun e w' => e = .returned (.bool true) ∧ Below w.heap.size w w' := by
  obtain ⟨l, rfl, h1⟩ := str_list s
  obtain ⟨m, rfl, h2⟩ := str_list b
  exact scriptFault_law l m (by omega) (by omega) w hE hT
end Go.Proofs.YtpkmekdpmkfcdaaGreatDoor.Sr

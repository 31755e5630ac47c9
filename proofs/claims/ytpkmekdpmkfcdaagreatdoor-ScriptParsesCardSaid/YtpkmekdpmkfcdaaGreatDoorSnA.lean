/- Contracts of the reference: digits, numbers, bytes and bits of words. Contracts of the reference: bytes and bits of words, where a name stands. Contracts of the reference: the words of a line; a text cut at each newline. -/
import Derived.Test.YtpkmekdpmkfcdaaGreatDoorSmB
import Derived.Test.YtpkmekdpmkfcdaaGreatDoorSmD
import Derived.Test.YtpkmekdpmkfcdaaGreatDoorRNum
namespace Go.Proofs.YtpkmekdpmkfcdaaGreatDoor.Sr
set_option linter.unusedVariables false
set_option linter.unusedSimpArgs false
open Go.RowKit Go.Proofs.YtpkmekdpmkfcdaaGreatDoor.Wd Go.Proofs.YtpkmekdpmkfcdaaGreatDoor.Px Go.Proofs.YtpkmekdpmkfcdaaGreatDoor.By Go.Proofs.YtpkmekdpmkfcdaaGreatDoor.En Go.Proofs.YtpkmekdpmkfcdaaGreatDoor.Pl Go.Proofs.YtpkmekdpmkfcdaaGreatDoor.Pf Go.Proofs.YtpkmekdpmkfcdaaGreatDoor.Sc

theorem rdigit22_any (c : UInt8) (x : Int) (hc : (c.toNat : Int) = x) (w : World) : Calls Tryz.prog 229 #[.int .u8 x] w fun e w' => e = .returned (.int .i64 (dgV c)) ∧ w' = w := by
  have hb : c.toNat < 256 := c.toNat_lt
  obtain ⟨d, hd⟩ : ∃ d, dgV c = d := ⟨_, rfl⟩
  rw [hd]
  have HD := Lib.hid hd
  unfold dgV hexD at hd
  have hx0 : 0 ≤ x := by omega
  have hx9 : x ≤ 255 := by omega
  have cc : x < 48 ∨ (48 ≤ x ∧ x ≤ 57) ∨ (57 < x ∧ x < 65) ∨ (65 ≤ x ∧ x ≤ 70) ∨ (70 < x ∧ x < 97) ∨ (97 ≤ x ∧ x ≤ 102) ∨ 102 < x := by omega
  rcases cc with q | ⟨q1, q2⟩ | ⟨q1, q2⟩ | ⟨q1, q2⟩ | ⟨q1, q2⟩ | ⟨q1, q2⟩ | q
  · rw [if_neg (by omega), if_neg (by omega), if_neg (by omega)] at hd
    simp only at hd
    subst hd
    have e1 : ¬ 48 ≤ x := by omega
    have e2 : ¬ 97 ≤ x := by omega
    have e3 : ¬ 65 ≤ x := by omega
    clear hc hb q HD
    go_enter Tryz.func229, Tryz.ntmps229
    go_wp2
    go_ret
    exact ⟨rfl, rfl⟩
  · rw [if_pos (by omega)] at hd
    simp only at hd
    have hd2 : d = x - 48 := by omega
    subst hd2
    clear hc hb hd HD
    go_enter Tryz.func229, Tryz.ntmps229
    go_wp2
    go_ret
    exact ⟨rfl, rfl⟩
  · rw [if_neg (by omega), if_neg (by omega), if_neg (by omega)] at hd
    simp only at hd
    subst hd
    have e1 : 48 ≤ x := by omega
    have e1' : ¬ x ≤ 57 := by omega
    have e2 : ¬ 97 ≤ x := by omega
    have e3 : ¬ 65 ≤ x := by omega
    clear hc hb HD
    go_enter Tryz.func229, Tryz.ntmps229
    go_wp2
    go_ret
    exact ⟨rfl, rfl⟩
  · rw [if_neg (by omega), if_neg (by omega), if_pos (by omega)] at hd
    simp only at hd
    have hd2 : d = x - 55 := by omega
    subst hd2
    have e1 : 48 ≤ x := by omega
    have e1' : ¬ x ≤ 57 := by omega
    have e2 : ¬ 97 ≤ x := by omega
    clear hc hb hd HD
    go_enter Tryz.func229, Tryz.ntmps229
    go_wp2
    go_ret
    exact ⟨ret_int (by omega), rfl⟩
  · rw [if_neg (by omega), if_neg (by omega), if_neg (by omega)] at hd
    simp only at hd
    subst hd
    have e1 : 48 ≤ x := by omega
    have e1' : ¬ x ≤ 57 := by omega
    have e2 : ¬ 97 ≤ x := by omega
    have e3 : 65 ≤ x := by omega
    have e3' : ¬ x ≤ 70 := by omega
    clear hc hb HD
    go_enter Tryz.func229, Tryz.ntmps229
    go_wp2
    go_ret
    exact ⟨rfl, rfl⟩
  · rw [if_neg (by omega), if_pos (by omega)] at hd
    simp only at hd
    have hd2 : d = x - 87 := by omega
    subst hd2
    have e1 : 48 ≤ x := by omega
    have e1' : ¬ x ≤ 57 := by omega
    clear hc hb hd HD
    go_enter Tryz.func229, Tryz.ntmps229
    go_wp2
    go_ret
    exact ⟨ret_int (by omega), rfl⟩
  · rw [if_neg (by omega), if_neg (by omega), if_neg (by omega)] at hd
    simp only at hd
    subst hd
    have e1 : 48 ≤ x := by omega
    have e1' : ¬ x ≤ 57 := by omega
    have e2 : 97 ≤ x := by omega
    have e2' : ¬ x ≤ 102 := by omega
    have e3 : 65 ≤ x := by omega
    have e3' : ¬ x ≤ 70 := by omega
    clear hc hb HD
    go_enter Tryz.func229, Tryz.ntmps229
    go_wp2
    go_ret
    exact ⟨rfl, rfl⟩
theorem rdigit22_as {c : UInt8} {x d : Int} (h : Hid (dgV c = d)) (hc : Hid ((c.toNat : Int) = x)) (w : World) : Calls Tryz.prog 229 #[.int .u8 x] w fun e w' => e = .returned (.int .i64 d) ∧ w' = w := by
  have := rdigit22_any c x hc.out w
  rwa [h.out] at this

/-! ### numbers -/
def numI (t : List UInt8) : Int := match numW t with
  | some n => (n : Int)
  | none => -1
theorem take_snoc' {α : Type} {l : List α} {k : Nat} {x : α} (h : l[k]? = some x) : l.take (k + 1) = l.take k ++ [x] := by rw [List.take_add_one, h]; rfl
theorem num_bad {t : List UInt8} {k : Nat} {c : UInt8} (h : t[k]? = some c) (hd : isDig c = false) : numI t = -1 := by
  have : numW t = none := by
    unfold numW
    rw [if_neg]
    rintro ⟨-, h2, -⟩
    have := List.all_eq_true.1 h2 c (List.mem_of_getElem? h)
    rw [hd] at this; cases this
  unfold numI; rw [this]
theorem valA_pow : ∀ (r : List UInt8) (a : Nat), a * 10 ^ r.length ≤ valA a r
  | [], a => by simp [valA_nil]
  | c :: r, a => by
    rw [valA_cons]
    have := valA_pow r (a * 10 + (c.toNat - 48))
    refine Nat.le_trans ?_ this
    rw [List.length_cons, Nat.pow_succ, Nat.add_mul]
    have e : a * (10 ^ r.length * 10) = a * 10 * 10 ^ r.length := by rw [Nat.mul_assoc, Nat.mul_comm 10]
    omega
theorem num_long {t : List UInt8} (h : 10 < t.length) : numI t = -1 := by
  have : numW t = none := by
    unfold numW
    rw [if_neg]
    rintro ⟨h1, h2, h3, h4⟩
    cases t with
    | nil => exact h1 rfl
    | cons c r =>
      have hd := of_decide_eq_true (List.all_eq_true.1 h2 c (by simp))
      have hc : c ≠ 48 := fun e => h3 ⟨by omega, by rw [e]; rfl⟩
      have hn : c.toNat ≠ 48 := fun e => hc (UInt8.toNat_inj.1 e)
      rw [valA_cons] at h4
      have h5 := valA_pow r (0 * 10 + (c.toNat - 48))
      have h6 : 10 ^ 10 ≤ 10 ^ r.length := Nat.pow_le_pow_right (by omega) (by simp at h; omega)
      have h7 : 1 * 10 ^ r.length ≤ (0 * 10 + (c.toNat - 48)) * 10 ^ r.length := Nat.mul_le_mul_right _ (by omega)
      have h8 : (10 : Nat) ^ 10 = 10000000000 := by decide
      omega
  unfold numI; rw [this]
theorem num_lead {t : List UInt8} (h : 1 < t.length) (h0 : t.head? = some 48) : numI t = -1 := by
  have : numW t = none := by
    unfold numW
    rw [if_neg]
    rintro ⟨-, -, h3, -⟩
    exact h3 ⟨h, h0⟩
  unfold numI; rw [this]
theorem num_end {t : List UInt8} (h1 : t ≠ []) (h2 : t.all isDig = true) (h3 : ¬ (1 < t.length ∧ t.head? = some 48)) : numI t = if 4294967295 < valA 0 t then -1 else (valA 0 t : Int) := by
  unfold numI numW
  by_cases h : valA 0 t ≤ 4294967295
  · rw [if_pos ⟨h1, h2, h3, h⟩, if_neg (by omega)]
  · rw [if_neg (fun q => h q.2.2.2), if_pos (by omega)]
theorem pow10_le {k : Nat} (h : k < 10) : (10 : Int) ^ k ≤ 1000000000 := by
  have : k = 0 ∨ k = 1 ∨ k = 2 ∨ k = 3 ∨ k = 4 ∨ k = 5 ∨ k = 6 ∨ k = 7 ∨ k = 8 ∨ k = 9 := by omega
  rcases this with rfl | rfl | rfl | rfl | rfl | rfl | rfl | rfl | rfl | rfl <;> decide
set_option maxRecDepth 20000 in
set_option maxHeartbeats 1000000 in
theorem rnumber_any (t : List UInt8) (ht : t.length ≤ 2000000) (w : World) :
    Calls Tryz.prog 138 #[.string ⟨t.toArray⟩] w fun e w' => e = .returned (.int .i64 (numI t)) ∧ w' = w := by
  by_cases hnil : t = []
  · subst hnil
    have : numI [] = -1 := rfl
    rw [this]
    go_enter Tryz.func138, Tryz.ntmps138
    go_wp2
    go_ret
    exact ⟨rfl, rfl⟩
  obtain ⟨v, hv⟩ : ∃ v, numI t = v := ⟨_, rfl⟩
  rw [hv]
  have HV := Lib.hid hv
  obtain ⟨s, hse⟩ : ∃ s : ByteArray, s = ⟨t.toArray⟩ := ⟨_, rfl⟩
  have hsz : s.size = t.length := by subst hse; rfl
  have hat : ∀ (k : Nat) (h1 : k < s.size), t[k]? = some s[k] := by subst hse; intro k h1; exact List.getElem?_eq_getElem h1
  have hne : (s.toList == []) = false := by
    rw [Lib.toList_data]; subst hse
    cases t with
    | nil => exact absurd rfl hnil
    | cons a r => rfl
  have hlen : 0 < s.size := by rw [hsz]; exact List.length_pos_iff.2 hnil
  have HSZ := Lib.hid hsz
  have HAT := Lib.hid hat
  have HNE := Lib.hid hnil
  rw [← hse]
  have hs2 : s.size ≤ 2000000 := by omega
  clear hse hsz hat hnil hv
  by_cases h10 : 10 < s.size
  · have hv2 : v = -1 := by rw [← HV.out]; exact num_long (by rw [← HSZ.out]; exact h10)
    subst hv2
    have i1 : (10 : Int) < (s.size : Int) := by omega
    go_enter Tryz.func138, Tryz.ntmps138
    go_wp2
    go_ret
    exact ⟨rfl, rfl⟩
  have i1 : ¬ (10 : Int) < (s.size : Int) := by omega
  have hg0 := HAT.out 0 hlen
  obtain ⟨x0, hx0⟩ : ∃ x : Int, ((s[0]'hlen).toNat : Int) = x := ⟨_, rfl⟩
  by_cases hz : 1 < s.size ∧ x0 = 48
  · have hv2 : v = -1 := by
      rw [← HV.out]
      refine num_lead (by rw [← HSZ.out]; exact hz.1) ?_
      rw [List.head?_eq_getElem?, hg0]
      congr 1
      exact UInt8.toNat_inj.1 (by show _ = 48; have := hz.2; omega)
    subst hv2
    have i2 : (1 : Int) < (s.size : Int) := by omega
    have i3 : x0 = 48 := hz.2
    subst i3
    clear hg0 hz
    go_enter Tryz.func138, Tryz.ntmps138
    go_wp2
    go_ret
    exact ⟨rfl, rfl⟩
  have HZ : Hid (¬ (1 < t.length ∧ t.head? = some 48)) := Lib.hid (by
    rintro ⟨h1, h2⟩
    refine hz ⟨by rw [HSZ.out]; exact h1, ?_⟩
    rw [List.head?_eq_getElem?, hg0] at h2
    injection h2 with h2
    rw [← hx0, h2]; rfl)
  have hb1 : ¬ (1 : Int) < (s.size : Int) ∨ ((1 : Int) < (s.size : Int) ∧ (x0 == 48) = false) := by
    by_cases h : 1 < s.size
    · exact .inr ⟨by omega, by rw [beq_eq_false_iff_ne]; exact fun e => hz ⟨h, e⟩⟩
    · exact .inl (by omega)
  have hloop : ∀ W : World, W = w → True := fun _ _ => trivial
  clear hloop hz hg0
  have HX0 := Lib.hid hx0
  have main : Calls Tryz.prog 138 #[.string s] w fun e w' => e = .returned (.int .i64 v) ∧ w' = w := by
    rcases hb1 with i2 | ⟨i3, i2⟩
    · go_enter Tryz.func138, Tryz.ntmps138
      go_wp2
      clear i2 hx0
      go_loop [3, 4] (fun n i => ∃ (k : Nat) (N : Int), k ≤ s.size ∧ i = .int .i64 (k : Int) ∧ n = .int .i64 N ∧ 0 ≤ N ∧ N < 10 ^ k ∧ Hid ((t.take k).all isDig = true ∧ N = (valA 0 (t.take k) : Int))) (fun _ i => s.size - (intOf i).toNat)
      case atStart => exact ⟨0, 0, Nat.zero_le _, rfl, rfl, Int.le_refl _, by decide, Lib.hid ⟨rfl, rfl⟩⟩
      case round =>
        obtain ⟨k, N, hk, rfl, rfl, hN0, hN, HR⟩ := hrel
        by_cases hlt : k < s.size
        · have i1 : (k : Int) < (s.size : Int) := by omega
          have hg := HAT.out k hlt
          obtain ⟨x, hx⟩ : ∃ x : Int, ((s[k]'hlt).toNat : Int) = x := ⟨_, rfl⟩
          have hxb : x < 256 := by have := (s[k]'hlt).toNat_lt; omega
          have hxb0 : 0 ≤ x := by omega
          by_cases hd : 48 ≤ x ∧ x ≤ 57
          · have hpk := pow10_le (k := k) (by omega)
            have hpk1 : (10 : Int) ^ (k + 1) = 10 ^ k * 10 := Int.pow_succ ..
            obtain ⟨d1, d2⟩ := hd
            have n1 : ¬ x < 48 := by omega
            have n2 : ¬ 57 < x := by omega
            have w1 : IntKind.i64.wrap (N * 10) = N * 10 := IntWalk.i64_in _ ⟨by omega, by omega⟩
            have w2 : IntKind.i64.wrap (N * 10 + x) = N * 10 + x := IntWalk.i64_in _ ⟨by omega, by omega⟩
            obtain ⟨M, hM⟩ : ∃ M : Int, N * 10 + x - 48 = M := ⟨_, rfl⟩
            have w3 : IntKind.i64.wrap (N * 10 + x - 48) = M := by rw [hM]; exact IntWalk.i64_in _ ⟨by omega, by omega⟩
            have hM0 : 0 ≤ M := by omega
            have hM1 : Hid (M < 10 ^ (k + 1)) := Lib.hid (by rw [hpk1]; omega)
            have HR2 : Hid ((t.take (k + 1)).all isDig = true ∧ M = (valA 0 (t.take (k + 1)) : Int)) := Lib.hid (by
              rw [(take_snoc' hg), valA_snoc, List.all_append, HR.out.1]
              refine ⟨by simp; exact decide_eq_true (by omega), ?_⟩
              have := HR.out.2
              omega)
            clear hM hpk1 hg
            go_wp2
            go_round
            case rel => exact ⟨k + 1, M, by omega, by go_num, rfl, hM0, hM1.out, HR2⟩
            case measure => simp [intOf]; omega
          · have hv2 : v = -1 := by rw [← HV.out]; exact num_bad hg (decide_eq_false (by omega))
            subst hv2
            clear hg
            by_cases n1 : x < 48
            · go_wp2
              go_ret
              exact ⟨rfl, rfl⟩
            · have n2 : 57 < x := by omega
              go_wp2
              go_ret
              exact ⟨rfl, rfl⟩
        · obtain rfl : k = s.size := by omega
          have i1 : ¬ (s.size : Int) < (s.size : Int) := by omega
          have hend := num_end HNE.out (by have := HR.out.1; rwa [List.take_of_length_le (by rw [HSZ.out]; exact Nat.le_refl _)] at this) HZ.out
          have hN2 := HR.out.2
          rw [List.take_of_length_le (by rw [HSZ.out]; exact Nat.le_refl _)] at hN2
          rw [HV.out] at hend
          clear hN HR
          by_cases hm : 4294967295 < N
          · have hv2 : v = -1 := by rw [hend, if_pos (by omega)]
            subst hv2
            clear hend hN2
            go_wp2
            go_ret
            exact ⟨rfl, rfl⟩
          · have hv2 : v = N := by rw [hend, if_neg (by omega)]; exact hN2.symm
            subst hv2
            clear hend hN2
            go_wp2
            go_ret
            exact ⟨rfl, rfl⟩
    · go_enter Tryz.func138, Tryz.ntmps138
      go_wp2
      clear i2 i3 hx0
      go_loop [3, 4] (fun n i => ∃ (k : Nat) (N : Int), k ≤ s.size ∧ i = .int .i64 (k : Int) ∧ n = .int .i64 N ∧ 0 ≤ N ∧ N < 10 ^ k ∧ Hid ((t.take k).all isDig = true ∧ N = (valA 0 (t.take k) : Int))) (fun _ i => s.size - (intOf i).toNat)
      case atStart => exact ⟨0, 0, Nat.zero_le _, rfl, rfl, Int.le_refl _, by decide, Lib.hid ⟨rfl, rfl⟩⟩
      case round =>
        obtain ⟨k, N, hk, rfl, rfl, hN0, hN, HR⟩ := hrel
        by_cases hlt : k < s.size
        · have i1 : (k : Int) < (s.size : Int) := by omega
          have hg := HAT.out k hlt
          obtain ⟨x, hx⟩ : ∃ x : Int, ((s[k]'hlt).toNat : Int) = x := ⟨_, rfl⟩
          have hxb : x < 256 := by have := (s[k]'hlt).toNat_lt; omega
          have hxb0 : 0 ≤ x := by omega
          by_cases hd : 48 ≤ x ∧ x ≤ 57
          · have hpk := pow10_le (k := k) (by omega)
            have hpk1 : (10 : Int) ^ (k + 1) = 10 ^ k * 10 := Int.pow_succ ..
            obtain ⟨d1, d2⟩ := hd
            have n1 : ¬ x < 48 := by omega
            have n2 : ¬ 57 < x := by omega
            have w1 : IntKind.i64.wrap (N * 10) = N * 10 := IntWalk.i64_in _ ⟨by omega, by omega⟩
            have w2 : IntKind.i64.wrap (N * 10 + x) = N * 10 + x := IntWalk.i64_in _ ⟨by omega, by omega⟩
            obtain ⟨M, hM⟩ : ∃ M : Int, N * 10 + x - 48 = M := ⟨_, rfl⟩
            have w3 : IntKind.i64.wrap (N * 10 + x - 48) = M := by rw [hM]; exact IntWalk.i64_in _ ⟨by omega, by omega⟩
            have hM0 : 0 ≤ M := by omega
            have hM1 : Hid (M < 10 ^ (k + 1)) := Lib.hid (by rw [hpk1]; omega)
            have HR2 : Hid ((t.take (k + 1)).all isDig = true ∧ M = (valA 0 (t.take (k + 1)) : Int)) := Lib.hid (by
              rw [(take_snoc' hg), valA_snoc, List.all_append, HR.out.1]
              refine ⟨by simp; exact decide_eq_true (by omega), ?_⟩
              have := HR.out.2
              omega)
            clear hM hpk1 hg
            go_wp2
            go_round
            case rel => exact ⟨k + 1, M, by omega, by go_num, rfl, hM0, hM1.out, HR2⟩
            case measure => simp [intOf]; omega
          · have hv2 : v = -1 := by rw [← HV.out]; exact num_bad hg (decide_eq_false (by omega))
            subst hv2
            clear hg
            by_cases n1 : x < 48
            · go_wp2
              go_ret
              exact ⟨rfl, rfl⟩
            · have n2 : 57 < x := by omega
              go_wp2
              go_ret
              exact ⟨rfl, rfl⟩
        · obtain rfl : k = s.size := by omega
          have i1 : ¬ (s.size : Int) < (s.size : Int) := by omega
          have hend := num_end HNE.out (by have := HR.out.1; rwa [List.take_of_length_le (by rw [HSZ.out]; exact Nat.le_refl _)] at this) HZ.out
          have hN2 := HR.out.2
          rw [List.take_of_length_le (by rw [HSZ.out]; exact Nat.le_refl _)] at hN2
          rw [HV.out] at hend
          clear hN HR
          by_cases hm : 4294967295 < N
          · have hv2 : v = -1 := by rw [hend, if_pos (by omega)]
            subst hv2
            clear hend hN2
            go_wp2
            go_ret
            exact ⟨rfl, rfl⟩
          · have hv2 : v = N := by rw [hend, if_neg (by omega)]; exact hN2.symm
            subst hv2
            clear hend hN2
            go_wp2
            go_ret
            exact ⟨rfl, rfl⟩
  exact main
theorem rnumber_as {t : List UInt8} {v : Int} (h : Hid (numI t = v)) (ht : t.length ≤ 2000000) (w : World) :
    Calls Tryz.prog 138 #[.string ⟨t.toArray⟩] w fun e w' => e = .returned (.int .i64 v) ∧ w' = w := by
  have := rnumber_any t ht w
  rwa [h.out] at this
end Go.Proofs.YtpkmekdpmkfcdaaGreatDoor.Sr

namespace Go.Proofs.YtpkmekdpmkfcdaaGreatDoor.Sr
set_option linter.unusedVariables false
set_option linter.unusedSimpArgs false
open Go.RowKit Go.Proofs.YtpkmekdpmkfcdaaGreatDoor.Wd Go.Proofs.YtpkmekdpmkfcdaaGreatDoor.Px Go.Proofs.YtpkmekdpmkfcdaaGreatDoor.By Go.Proofs.YtpkmekdpmkfcdaaGreatDoor.En Go.Proofs.YtpkmekdpmkfcdaaGreatDoor.Pl Go.Proofs.YtpkmekdpmkfcdaaGreatDoor.Pf Go.Proofs.YtpkmekdpmkfcdaaGreatDoor.Sc

def RHexR (o : Option (List UInt8)) (w : World) (e : Ending) (w' : World) : Prop := match o with
  | some b => ∃ A k, e = .returned (.tuple #[.slice A b.length k, .bool true]) ∧ w'.ownsRow w.heap.size 5 1 (.slice A b.length k) b.length (b.map cel)
  | none => ∃ A n k, e = .returned (.tuple #[.slice A n k, .bool false])
def RBitsR (o : Option (List Bool)) (w : World) (e : Ending) (w' : World) : Prop := match o with
  | some b => ∃ A k, e = .returned (.tuple #[.slice A b.length k, .bool true]) ∧ w'.ownsRow w.heap.size 4 1 (.slice A b.length k) b.length (b.map Value.bool)
  | none => ∃ A n k, e = .returned (.tuple #[.slice A n k, .bool false])
set_option maxRecDepth 20000 in
set_option maxHeartbeats 1000000 in
theorem rhex_in (l : List UInt8) (hs : l.length ≤ 2000000) (w : World) (h45 : l ≠ [45]) :
    Calls Tryz.prog 152 #[.string ⟨l.toArray⟩] w fun e w' => RHexR (hexP l) w e w' ∧ Below w.heap.size w w' := by
  obtain ⟨i0, hi0, hz0, hz1, hz2⟩ := info_parts Tryz.infoB
  have hne : (l == [45]) = false := by simpa using h45
  obtain ⟨s, hse⟩ : ∃ s : ByteArray, s = ⟨l.toArray⟩ := ⟨_, rfl⟩
  have hsz : s.size = l.length := by subst hse; rfl
  have hat : ∀ (k : Nat) (h1 : k < s.size) (h2 : k < l.length), s[k] = l[k] := by subst hse; intro k h1 h2; rfl
  have hne2 : (s.toList == [45]) = false := by rw [Lib.toList_data]; subst hse; exact hne
  obtain ⟨rs, hrs⟩ : ∃ r, hexP l = r := ⟨_, rfl⟩
  rw [hrs]
  have HRS := Lib.hid hrs
  have HSZ := Lib.hid hsz
  have HAT := Lib.hid hat
  have hs2 : s.size ≤ 2000000 := by omega
  rw [← hse]
  clear hse hsz hat hne h45 hrs
  go_enter Tryz.func152, Tryz.ntmps152
  go_wp2
  clear hne2
  go_loopw [4, 5] (fun v i wr => ∃ (k p : Nat) (dn : List UInt8), p ≤ s.size ∧ Hid (p = 2 * k) ∧ k ≤ p ∧ i = .int .i64 (p : Int) ∧ Hid (HexAt l k dn) ∧ (∃ A c, v = .slice A k c) ∧ wr.ownsRow w.heap.size 5 1 v k (dn.map cel) ∧ Below w.heap.size w wr) (fun _ i _ => s.size - (intOf i).toNat)
  case atStart => exact ⟨0, 0, [], Nat.zero_le _, Lib.hid rfl, Nat.le_refl _, rfl, Lib.hid (HexAt.start l), ⟨_, _, rfl⟩, World.ownsRow_nil _ _ _ _, Below.refl _ _⟩
  case round =>
    obtain ⟨k, p, dn, hps, HP, hkp, rfl, HA, ⟨A, c, rfl⟩, hown, hbl⟩ := hrel
    by_cases hlt : p + 1 < s.size
    · have i2 : (p : Int) + 1 < (s.size : Int) := by omega
      have i1 : (p : Int) < (s.size : Int) := by omega
      have j1 : p < s.size := by omega
      have j2 : p + 1 < s.size := by omega
      have hsl := HSZ.out
      have hp := HP.out
      have a1 : s[p] = l[2 * k] := by rw [HAT.out p j1 (by omega)]; congr 1
      have a2 : s[p + 1] = l[2 * k + 1] := by rw [HAT.out (p + 1) j2 (by omega)]; congr 1; omega
      obtain ⟨x, hx⟩ : ∃ x : Int, ((s[p]'j1).toNat : Int) = x := ⟨_, rfl⟩
      obtain ⟨y, hy⟩ : ∃ y : Int, ((s[p + 1]'j2).toNat : Int) = y := ⟨_, rfl⟩
      have hnx := fun hx hy => HA.out.next (l := l) (a := hx) (b := hy) (by omega)
      rw [← a1, ← a2] at hnx
      have hbd := HA.out.bad (l := l) (by omega)
      rw [← a1, ← a2] at hbd
      rw [HRS.out] at hbd
      have HX := Lib.hid hx
      have HY := Lib.hid hy
      have HNX := Lib.hid hnx
      have HBD := Lib.hid hbd
      obtain ⟨d1, hd1⟩ : ∃ d, dgV (s[p]'j1) = d := ⟨_, rfl⟩
      obtain ⟨d2, hd2⟩ : ∃ d, dgV (s[p + 1]'j2) = d := ⟨_, rfl⟩
      have HD1 := Lib.hid hd1
      have HD2 := Lib.hid hd2
      have hpn : (((p + 2 : Nat) : Int)) = (p : Int) + 2 := by omega
      clear hnx hbd a1 a2 hsl hp
      cases h1 : hexD (s[p]'j1) with
      | none =>
        have e1 : rs = none := HBD.out (.inl h1)
        obtain rfl : d1 = -1 := by rw [← hd1]; exact dgV_none h1
        have E1 := Lib.hid e1
        clear hd1 hd2 h1 e1
        go_wp2_with (go_at_call 229; first | (with_reducible refine (rdigit22_as HD1 HX _).mono ?_; rintro e w9 ⟨rfl, hw9⟩; rw [hw9]; clear hw9) | (with_reducible refine (rdigit22_as HD2 HY _).mono ?_; rintro e w9 ⟨rfl, hw9⟩; rw [hw9]; clear hw9))
        go_ret2
        exact ⟨by rw [E1.out]; exact ⟨_, _, _, rfl⟩, hbl⟩
      | some a =>
        have ha16 := hexD_lt h1
        have e1 : d1 = (a : Int) := by rw [← hd1]; exact dgV_some h1
        have E1' := Lib.hid e1
        have n1 : 0 ≤ d1 := by omega
        have n1' : d1 < 16 := by omega
        clear e1
        cases h2 : hexD (s[p + 1]'j2) with
        | none =>
          have e1 : rs = none := HBD.out (.inr h2)
          obtain rfl : d2 = -1 := by rw [← hd2]; exact dgV_none h2
          have E1 := Lib.hid e1
          clear hd1 hd2 h1 h2 e1
          go_wp2_with (go_at_call 229; first | (with_reducible refine (rdigit22_as HD1 HX _).mono ?_; rintro e w9 ⟨rfl, hw9⟩; rw [hw9]; clear hw9) | (with_reducible refine (rdigit22_as HD2 HY _).mono ?_; rintro e w9 ⟨rfl, hw9⟩; rw [hw9]; clear hw9))
          go_ret2
          exact ⟨by rw [E1.out]; exact ⟨_, _, _, rfl⟩, hbl⟩
        | some b =>
          have hb16 := hexD_lt h2
          have e2 : d2 = (b : Int) := by rw [← hd2]; exact dgV_some h2
          have n2 : 0 ≤ d2 := by omega
          have n2' : d2 < 16 := by omega
          have HN := Lib.hid (HNX.out a b h1 h2)
          have HC : Hid (cel (UInt8.ofNat (16 * a + b)) = .int .u8 (16 * d1 + d2)) := Lib.hid (by rw [hx_cel a b ha16 hb16, ← e2, ← E1'.out])
          have w3' := hx_w8 d1 d2 n1 n1' n2 n2'
          have HP2 : Hid (p + 2 = 2 * (k + 1)) := Lib.hid (by rw [HP.out]; omega)
          clear e2
          clear hd1 hd2 h1 h2 HNX HBD
          go_wp2_with (first
            | (go_at_call 229; first | (with_reducible refine (rdigit22_as HD1 HX _).mono ?_; rintro e w9 ⟨rfl, hw9⟩; rw [hw9]; clear hw9) | (with_reducible refine (rdigit22_as HD2 HY _).mono ?_; rintro e w9 ⟨rfl, hw9⟩; rw [hw9]; clear hw9))
            | (at_builtin; refine wpList_append_own _ rfl _ _ 85 rfl w.heap.size 5 i0 (.int .u8 0) 1 1 Tryz.underlying85 hi0 hz0 hz1 hz2 rfl (by decide) _ _ _ rfl (hown.alloc _) ⟨wr.heap.size, 0, none⟩ 1 1 [.int .u8 (16 * d1 + d2)] rfl rfl (cells_at rfl _ _) ?c2 ?c3 ?c4 ?c5 ?_))
          case c2 => first | rfl | (intro u hu; simp at hu; subst hu; rfl)
          case c3 => unfold maxLen; omega
          case c4 => omega
          case c5 => have := hbl.size; simp; omega
          intro v' w3 hown' hgrow _
          have hbA := (hbl.alloc hbl.size _).grown hgrow (by have := hbl.size; simp; omega) (fun j hj => (hown.lt j hj).1)
          obtain ⟨A4, c4, rfl, -⟩ := own_sl hown'
          clear hown hgrow hbl
          go_wp2
          go_roundw
          case rel => exact ⟨k + 1, p + 2, _, by omega, HP2, by omega, by rw [hpn], HN, ⟨_, _, rfl⟩, by rw [List.map_append, List.map_singleton, HC.out]; exact hown', hbA⟩
          case measure => simp [intOf]; omega
    · have i2 : ¬ (p : Int) + 1 < (s.size : Int) := by omega
      by_cases hev : p = s.size
      · have q3 : Int.tmod (s.size : Int) 2 = 0 := by rw [Int.tmod_eq_emod_of_nonneg (by omega)]; have := HP.out; omega
        have hdone : rs = some dn := by rw [← HRS.out]; exact HA.out.done (by have := HP.out; have := HSZ.out; omega)
        have hdl : dn.length = k := HA.out.1
        have HD := Lib.hid hdone
        have HDL := Lib.hid hdl
        clear hdone hev hdl
        have HOW := Lib.hid hown
        clear hown
        go_wp2
        go_ret2
        exact ⟨by rw [HD.out]; have e := HDL.out; subst e; exact ⟨_, _, rfl, HOW.out⟩, hbl⟩
      · have q3 : Int.tmod (s.size : Int) 2 = 1 := by rw [Int.tmod_eq_emod_of_nonneg (by omega)]; have := HP.out; omega
        have hnone : rs = none := by rw [← HRS.out]; exact hexP_odd l.length l (Nat.le_refl _) (by have := HP.out; have := HSZ.out; omega)
        have HD := Lib.hid hnone
        clear hnone hev
        go_wp2
        go_ret2
        exact ⟨by rw [HD.out]; exact ⟨_, _, _, rfl⟩, hbl⟩
theorem rhex_any (l : List UInt8) (hs : l.length ≤ 2000000) (w : World) :
    Calls Tryz.prog 152 #[.string ⟨l.toArray⟩] w fun e w' => RHexR (hexW l) w e w' ∧ Below w.heap.size w w' := by
  by_cases h45 : l = [45]
  · subst h45
    go_enter Tryz.func152, Tryz.ntmps152
    go_wp2
    go_ret2
    exact ⟨⟨none, 0, rfl, World.ownsRow_nil _ _ _ _⟩, Below.refl _ _⟩
  · have : hexW l = hexP l := by unfold hexW; rw [if_neg h45]
    rw [this]
    exact rhex_in l hs w h45
theorem rhex_as {l : List UInt8} {r : Option (List UInt8)} (h : Hid (hexW l = r)) (hs : l.length ≤ 2000000) (w : World) :
    Calls Tryz.prog 152 #[.string ⟨l.toArray⟩] w fun e w' => RHexR r w e w' ∧ Below w.heap.size w w' := by
  have := rhex_any l hs w
  rwa [h.out] at this
set_option maxRecDepth 20000 in
set_option maxHeartbeats 1000000 in
theorem rbits_in (l : List UInt8) (hs : l.length ≤ 2000000) (w : World) (h45 : l ≠ [45]) :
    Calls Tryz.prog 214 #[.string ⟨l.toArray⟩] w fun e w' => RBitsR (bitP l) w e w' ∧ Below w.heap.size w w' := by
  obtain ⟨i0, hi0, hz0, hz1, hz2⟩ := info_parts Tryz.infoBool
  have hne : (l == [45]) = false := by simpa using h45
  obtain ⟨s, hse⟩ : ∃ s : ByteArray, s = ⟨l.toArray⟩ := ⟨_, rfl⟩
  have hsz : s.size = l.length := by subst hse; rfl
  have hat : ∀ (k : Nat) (h1 : k < s.size), l[k]? = some s[k] := by subst hse; intro k h1; exact List.getElem?_eq_getElem h1
  have hne2 : (s.toList == [45]) = false := by rw [Lib.toList_data]; subst hse; exact hne
  obtain ⟨rs, hrs⟩ : ∃ r, bitP l = r := ⟨_, rfl⟩
  have HB0 : Hid (bitP l = (bitP (l.drop 0)).map (([] : List Bool) ++ ·)) := Lib.hid (by rw [List.drop_zero]; cases bitP l <;> rfl)
  rw [hrs]
  have HRS := Lib.hid hrs
  have HSZ := Lib.hid hsz
  have HAT := Lib.hid hat
  have hs2 : s.size ≤ 2000000 := by omega
  rw [← hse]
  clear hse hsz hat hne h45 hrs
  go_enter Tryz.func214, Tryz.ntmps214
  go_wp2
  clear hne2
  go_loopw [4, 5] (fun v i wr => ∃ (k : Nat) (dn : List Bool), k ≤ s.size ∧ i = .int .i64 (k : Int) ∧ Hid (bitP l = (bitP (l.drop k)).map (dn ++ ·)) ∧ Hid (dn.length = k) ∧ (∃ A c, v = .slice A k c) ∧ wr.ownsRow w.heap.size 4 1 v k (dn.map Value.bool) ∧ Below w.heap.size w wr) (fun _ i _ => s.size - (intOf i).toNat)
  case atStart => exact ⟨0, [], Nat.zero_le _, rfl, HB0, Lib.hid rfl, ⟨_, _, rfl⟩, World.ownsRow_nil _ _ _ _, Below.refl _ _⟩
  case round =>
    obtain ⟨k, dn, hk, rfl, HB, HL, ⟨A, c, rfl⟩, hown, hbl⟩ := hrel
    by_cases hlt : k < s.size
    · have i1 : (k : Int) < (s.size : Int) := by omega
      have hg := HAT.out k hlt
      obtain ⟨x, hx⟩ : ∃ x : Int, ((s[k]'hlt).toNat : Int) = x := ⟨_, rfl⟩
      by_cases q1 : x = 48
      · have hc : s[k]'hlt = 48 := UInt8.toNat_inj.1 (by show _ = 48; omega)
        have HN := Lib.hid (bit_next HB.out hg (.inl hc))
        rw [hc] at HN
        subst q1
        clear hg hc
        go_wp2_with (at_builtin; go_loud (refine wpList_append_own _ rfl _ _ 106 rfl w.heap.size 4 i0 (.bool false) 1 1 Tryz.underlying106 hi0 hz0 hz1 hz2 rfl (by decide) _ _ _ rfl (hown.alloc _) ⟨wr.heap.size, 0, none⟩ 1 1 [.bool false] rfl rfl (cells_at rfl _ _) ?c2 ?c3 ?c4 ?c5 ?_))
        case c2 => first | rfl | (intro u hu; simp at hu; subst hu; rfl)
        case c3 => unfold maxLen; omega
        case c4 => omega
        case c5 => have := hbl.size; simp; omega
        intro v' w3 hown' hgrow _
        have hbA := (hbl.alloc hbl.size _).grown hgrow (by have := hbl.size; simp; omega) (fun j hj => (hown.lt j hj).1)
        obtain ⟨A4, c4, rfl, -⟩ := own_sl hown'
        clear hown hgrow hbl
        go_wp2
        go_roundw
        case rel => exact ⟨k + 1, dn ++ [false], by omega, by go_num, HN, Lib.hid (by rw [List.length_append, HL.out]; rfl), ⟨_, _, rfl⟩, by rw [List.map_append, List.map_singleton]; exact hown', hbA⟩
        case measure => simp [intOf]; omega
      · by_cases q2 : x = 49
        · have hc : s[k]'hlt = 49 := UInt8.toNat_inj.1 (by show _ = 49; omega)
          have HN := Lib.hid (bit_next HB.out hg (.inr hc))
          rw [hc] at HN
          subst q2
          clear hg hc
          go_wp2_with (at_builtin; go_loud (refine wpList_append_own _ rfl _ _ 106 rfl w.heap.size 4 i0 (.bool false) 1 1 Tryz.underlying106 hi0 hz0 hz1 hz2 rfl (by decide) _ _ _ rfl (hown.alloc _) ⟨wr.heap.size, 0, none⟩ 1 1 [.bool true] rfl rfl (cells_at rfl _ _) ?c2 ?c3 ?c4 ?c5 ?_))
          case c2 => first | rfl | (intro u hu; simp at hu; subst hu; rfl)
          case c3 => unfold maxLen; omega
          case c4 => omega
          case c5 => have := hbl.size; simp; omega
          intro v' w3 hown' hgrow _
          have hbA := (hbl.alloc hbl.size _).grown hgrow (by have := hbl.size; simp; omega) (fun j hj => (hown.lt j hj).1)
          obtain ⟨A4, c4, rfl, -⟩ := own_sl hown'
          clear hown hgrow hbl
          go_wp2
          go_roundw
          case rel => exact ⟨k + 1, dn ++ [true], by omega, by go_num, HN, Lib.hid (by rw [List.length_append, HL.out]; rfl), ⟨_, _, rfl⟩, by rw [List.map_append, List.map_singleton]; exact hown', hbA⟩
          case measure => simp [intOf]; omega
        · have hbad := bit_bad HB.out hg (by
            rintro (h | h)
            · exact q1 (by rw [← hx, h]; rfl)
            · exact q2 (by rw [← hx, h]; rfl))
          rw [HRS.out] at hbad
          have HD := Lib.hid hbad
          have f1 : (x != 48) = true := by rw [bne_iff_ne]; exact q1
          have f2 : (x != 49) = true := by rw [bne_iff_ne]; exact q2
          clear hg hbad
          go_wp2
          go_ret2
          exact ⟨by rw [HD.out]; exact ⟨_, _, _, rfl⟩, hbl⟩
    · obtain rfl : k = s.size := by omega
      have i1 : ¬ (s.size : Int) < (s.size : Int) := by omega
      have hd : rs = some dn := by
        have := HB.out
        rw [List.drop_of_length_le (by have := HSZ.out; omega), HRS.out] at this
        simpa [bitP] using this
      have HD := Lib.hid hd
      have HOW := Lib.hid hown
      clear hd hown
      go_wp2
      go_ret2
      refine ⟨?_, hbl⟩
      rw [HD.out]
      show ∃ A k, _ = Ending.returned (.tuple #[.slice A dn.length k, .bool true]) ∧ wr.ownsRow w.heap.size 4 1 (.slice A dn.length k) dn.length (dn.map Value.bool)
      rw [HL.out]
      exact ⟨A, c, rfl, HOW.out⟩
theorem rbits_any (l : List UInt8) (hs : l.length ≤ 2000000) (w : World) :
    Calls Tryz.prog 214 #[.string ⟨l.toArray⟩] w fun e w' => RBitsR (bitW l) w e w' ∧ Below w.heap.size w w' := by
  by_cases h45 : l = [45]
  · subst h45
    go_enter Tryz.func214, Tryz.ntmps214
    go_wp2
    go_ret2
    exact ⟨⟨none, 0, rfl, World.ownsRow_nil _ _ _ _⟩, Below.refl _ _⟩
  · have : bitW l = bitP l := by unfold bitW; rw [if_neg h45]
    rw [this]
    exact rbits_in l hs w h45
theorem rbits_as {l : List UInt8} {r : Option (List Bool)} (h : Hid (bitW l = r)) (hs : l.length ≤ 2000000) (w : World) :
    Calls Tryz.prog 214 #[.string ⟨l.toArray⟩] w fun e w' => RBitsR r w e w' ∧ Below w.heap.size w w' := by
  have := rbits_any l hs w
  rwa [h.out] at this
set_option maxRecDepth 20000 in
theorem rfind_any (names : List (List UInt8)) (t : List UInt8) (A : Option Addr) (N c : Nat) (w : World) (hN : Hid (names.length + 1 = N)) (hN2 : N ≤ 100) (hs : Shows strc w w.heap.size A ([] :: names)) :
    Calls Tryz.prog 139 #[.slice A N c, .string ⟨t.toArray⟩] w fun e w' => e = .returned (.int .i64 (named names t : Nat)) ∧ w' = w := by
  obtain ⟨r, hr⟩ : ∃ r, named names t = r := ⟨_, rfl⟩
  rw [hr]
  have HR := Lib.hid hr
  clear hr
  obtain ⟨b, o, rfl, hb, hc⟩ := hs (by simp)
  go_enter Tryz.func139, Tryz.ntmps139
  go_wp2
  go_loop [5] (fun i => ∃ k : Nat, k + 1 ≤ N ∧ i = .int .i64 ((k : Int) + 1) ∧ Hid (r = if named (names.drop k) t = 0 then 0 else named (names.drop k) t + k)) (fun i => N - (intOf i).toNat)
  case atStart => exact ⟨0, by have := hN.out; omega, rfl, Lib.hid (by rw [← HR.out, List.drop_zero]; split <;> omega)⟩
  case round =>
    obtain ⟨k, hk, rfl, HK⟩ := hrel
    by_cases hlt : k + 1 < N
    · have i1 : (k : Int) + 1 < (N : Int) := by omega
      obtain ⟨x, hx⟩ : ∃ x, names[k]? = some x := ⟨_, List.getElem?_eq_getElem (by have := hN.out; omega)⟩
      have c0 : w.cell? ⟨b, o + (k + 1), none⟩ = some (.string ⟨x.toArray⟩) := hc (k + 1) x (by simpa using hx)
      have hst := named_drop t hx
      have ek : ((k : Int) + 1).toNat = k + 1 := by omega
      clear hx
      by_cases he : x = t
      · rw [if_pos he] at hst
        have HE : Hid (r = k + 1) := Lib.hid (by have := HK.out; rw [hst] at this; simp at this; omega)
        have et : (x == t) = true := by simp [he]
        clear hst he HK
        go_wp2
        go_ret
        exact ⟨ret_v (by rw [HE.out]; rfl), rfl⟩
      · rw [if_neg he] at hst
        have HE : Hid (r = if named (names.drop (k + 1)) t = 0 then 0 else named (names.drop (k + 1)) t + (k + 1)) := Lib.hid (by
          have := HK.out; rw [hst] at this; rw [this]; split <;> (split <;> simp_all <;> omega))
        have et : (x == t) = false := by simp [he]
        clear hst he HK
        go_wp2
        go_round
        case rel => exact ⟨k + 1, by omega, by go_num, HE⟩
        case measure => simp [intOf]; omega
    · have i1 : ¬ (k : Int) + 1 < (N : Int) := by omega
      have HE : Hid (r = 0) := Lib.hid (by
        have := HK.out
        rw [List.drop_of_length_le (by have := hN.out; omega)] at this
        simpa [named] using this)
      go_wp2
      go_ret
      exact ⟨ret_v (by rw [HE.out]; rfl), rfl⟩
theorem rfind_as {names : List (List UInt8)} {t : List UInt8} {K : Nat} (h : Hid (named names t = K)) (A : Option Addr) (N c : Nat) (w : World) (hN : Hid (names.length + 1 = N)) (hN2 : N ≤ 100) (hs : Shows strc w w.heap.size A ([] :: names)) :
    Calls Tryz.prog 139 #[.slice A N c, .string ⟨t.toArray⟩] w fun e w' => e = .returned (.int .i64 (K : Int)) ∧ w' = w := by
  have := rfind_any names t A N c w hN hN2 hs
  rwa [h.out] at this
end Go.Proofs.YtpkmekdpmkfcdaaGreatDoor.Sr

namespace Go.Proofs.YtpkmekdpmkfcdaaGreatDoor.Sr
set_option linter.unusedVariables false
set_option linter.unusedSimpArgs false
open Go.RowKit Go.Proofs.YtpkmekdpmkfcdaaGreatDoor.Wd Go.Proofs.YtpkmekdpmkfcdaaGreatDoor.Px Go.Proofs.YtpkmekdpmkfcdaaGreatDoor.By Go.Proofs.YtpkmekdpmkfcdaaGreatDoor.En Go.Proofs.YtpkmekdpmkfcdaaGreatDoor.Pl Go.Proofs.YtpkmekdpmkfcdaaGreatDoor.Sc
open Go.Proofs.YtpkmekdpmkfcdaaGreatDoor.Pf (Cut strc)

/-- the reference's words: k bytes are over, a word begun at p or none -/
def RW (t : List UInt8) (k : Nat) (pre : List (List UInt8)) : Option Nat → Prop
  | none => wds [] t = (wds [] (t.drop k)).map (pre ++ ·)
  | some p => p < k ∧ k ≤ t.length ∧ wds [] t = (wds ((t.take k).drop p) (t.drop k)).map (pre ++ ·)
theorem RW.start (t : List UInt8) : RW t 0 [] none := by
  show wds [] t = _
  rw [List.drop_zero]; cases wds [] t <;> rfl
theorem drop_at {t : List UInt8} {k : Nat} {c : UInt8} (h : t[k]? = some c) : t.drop k = c :: t.drop (k + 1) := by
  obtain ⟨hk, e⟩ := List.getElem?_eq_some_iff.1 h
  rw [List.drop_eq_getElem_cons hk, e]
theorem cur_snoc {t : List UInt8} {k p : Nat} {c : UInt8} (h : t[k]? = some c) (hp : p ≤ k) : (t.take (k + 1)).drop p = (t.take k).drop p ++ [c] := by
  have hk := (List.getElem?_eq_some_iff.1 h).1
  rw [take_snoc' h, List.drop_append_of_le_length (by rw [List.length_take]; omega)]
theorem cur_ne {t : List UInt8} {k p : Nat} (hp : p < k) (hk : k ≤ t.length) : (t.take k).drop p ≠ [] := by
  intro e
  have := congrArg List.length e
  rw [List.length_drop, List.length_take] at this
  simp at this; omega
theorem blk_n35 {c : UInt8} (h : isBlk c = true) : c ≠ 35 := by intro e; subst e; exact absurd h (by decide)
theorem RW.n_blk {t : List UInt8} {k : Nat} {pre : List (List UInt8)} {c : UInt8} (h : RW t k pre none) (hc : t[k]? = some c) (hb : isBlk c = true) : RW t (k + 1) pre none := by
  have h : wds [] t = _ := h
  rw [drop_at hc, wds_blank _ _ hb] at h
  show wds [] t = _
  rw [h]
  cases wds [] (t.drop (k + 1)) <;> simp [flw]
theorem RW.n_ok {t : List UInt8} {k : Nat} {pre : List (List UInt8)} {c : UInt8} (h : RW t k pre none) (hc : t[k]? = some c) (hk : okC c = true) (h35 : c ≠ 35) : RW t (k + 1) pre (some k) := by
  have h : wds [] t = _ := h
  have hlt := (List.getElem?_eq_some_iff.1 hc).1
  rw [drop_at hc, wds, if_neg h35, if_neg (by rw [okC_blk hk]; simp), if_pos hk] at h
  refine ⟨Nat.lt_succ_self k, hlt, ?_⟩
  rw [cur_snoc hc (Nat.le_refl k), List.drop_of_length_le (by rw [List.length_take]; omega)]
  exact h
theorem RW.n_bad {t : List UInt8} {k : Nat} {pre : List (List UInt8)} {c : UInt8} (h : RW t k pre none) (hc : t[k]? = some c) (hb : isBlk c = false) (hk : okC c = false) (h35 : c ≠ 35) : wds [] t = none := by
  have h : wds [] t = _ := h
  rw [drop_at hc, wds, if_neg h35, if_neg (by rw [hb]; simp), if_neg (by rw [hk]; simp)] at h
  exact h
theorem RW.n_note {t : List UInt8} {k : Nat} {pre : List (List UInt8)} (h : RW t k pre none) (hc : t[k]? = some 35) : wds [] t = some pre := by
  have h : wds [] t = _ := h
  rw [drop_at hc, wds, if_pos rfl] at h
  simpa [flw] using h
theorem RW.n_end {t : List UInt8} {pre : List (List UInt8)} (h : RW t t.length pre none) : wds [] t = some pre := by
  have h : wds [] t = _ := h
  rw [List.drop_length, wds] at h
  simpa [flw] using h
theorem RW.s_blk {t : List UInt8} {k p : Nat} {pre : List (List UInt8)} {c : UInt8} (h : RW t k pre (some p)) (hc : t[k]? = some c) (hb : isBlk c = true) : RW t (k + 1) (pre ++ [(t.take k).drop p]) none := by
  obtain ⟨h1, h2, h3⟩ := h
  rw [drop_at hc, wds_blank _ _ hb, flw_ne (cur_ne h1 h2)] at h3
  show wds [] t = _
  rw [h3]
  cases wds [] (t.drop (k + 1)) <;> simp
theorem RW.s_ok {t : List UInt8} {k p : Nat} {pre : List (List UInt8)} {c : UInt8} (h : RW t k pre (some p)) (hc : t[k]? = some c) (hk : okC c = true) (h35 : c ≠ 35) : RW t (k + 1) pre (some p) := by
  obtain ⟨h1, h2, h3⟩ := h
  have hlt := (List.getElem?_eq_some_iff.1 hc).1
  rw [drop_at hc, wds, if_neg h35, if_neg (by rw [okC_blk hk]; simp), if_pos hk] at h3
  refine ⟨by omega, hlt, ?_⟩
  rw [cur_snoc hc (by omega)]
  exact h3
theorem RW.s_bad {t : List UInt8} {k p : Nat} {pre : List (List UInt8)} {c : UInt8} (h : RW t k pre (some p)) (hc : t[k]? = some c) (hb : isBlk c = false) (hk : okC c = false) (h35 : c ≠ 35) : wds [] t = none := by
  obtain ⟨h1, h2, h3⟩ := h
  rw [drop_at hc, wds, if_neg h35, if_neg (by rw [hb]; simp), if_neg (by rw [hk]; simp)] at h3
  exact h3
theorem RW.s_note {t : List UInt8} {k p : Nat} {pre : List (List UInt8)} (h : RW t k pre (some p)) (hc : t[k]? = some 35) : wds [] t = some (pre ++ [(t.take k).drop p]) := by
  obtain ⟨h1, h2, h3⟩ := h
  rw [drop_at hc, wds, if_pos rfl, flw_ne (cur_ne h1 h2)] at h3
  exact h3
theorem RW.s_end {t : List UInt8} {p : Nat} {pre : List (List UInt8)} (h : RW t t.length pre (some p)) : wds [] t = some (pre ++ [(t.take t.length).drop p]) := by
  obtain ⟨h1, h2, h3⟩ := h
  rw [List.drop_length, wds, flw_ne (cur_ne h1 h2)] at h3
  exact h3
def RWordsR (o : Option (List (List UInt8))) (w : World) (e : Ending) (w' : World) : Prop := match o with
  | some ws => ∃ A k, e = .returned (.tuple #[.slice A ws.length k, .bool true]) ∧ w'.ownsRow w.heap.size 9 1 (.slice A ws.length k) ws.length (ws.map strc)
  | none => e = .returned (.tuple #[.slice none 0 0, .bool false])
/-- a slice's state told by a place or none -/
def atV : Option Nat → Int
  | none => -1
  | some p => (p : Int)
set_option maxRecDepth 20000 in
set_option maxHeartbeats 4000000 in
theorem rwords_any (t : List UInt8) (ht : t.length ≤ 1999990) (w : World) :
    Calls Tryz.prog 33 #[.string ⟨t.toArray⟩] w fun e w' => RWordsR (wrds t) w e w' ∧ Below w.heap.size w w' := by
  obtain ⟨i0, hi0, hz0, hz1, hz2⟩ := info_parts infoStr
  obtain ⟨rs, hrs⟩ : ∃ r, wrds t = r := ⟨_, rfl⟩
  rw [hrs]
  have HRS := Lib.hid hrs
  have hex := Sr.ext_mid t
  obtain ⟨s, hse⟩ : ∃ s : ByteArray, s = ⟨t.toArray⟩ := ⟨_, rfl⟩
  have hsz : s.size = t.length := by subst hse; rfl
  have hat : ∀ (k : Nat) (h1 : k < s.size), t[k]? = some s[k] := by subst hse; intro k h1; exact List.getElem?_eq_getElem h1
  rw [← hse] at hex ⊢
  have HSZ := Lib.hid hsz
  have HAT := Lib.hid hat
  have HEX := Lib.hid hex
  have hs2 : s.size ≤ 1999990 := by omega
  clear hse hsz hat hex hrs
  go_enter Tryz.func33, Tryz.ntmps33
  go_wp2
  go_loopw [4, 5, 6] (fun v a i wr => ∃ (k n : Nat) (at_ : Option Nat) (dn : List (List UInt8)), k ≤ s.size ∧ n ≤ k ∧ i = .int .i64 (k : Int) ∧ a = .int .i64 (atV at_) ∧ Hid (RW t k dn at_) ∧ Hid (dn.length = n) ∧ (∃ A c, v = .slice A n c) ∧ wr.ownsRow w.heap.size 9 1 v n (dn.map strc) ∧ Below w.heap.size w wr) (fun _ _ i _ => s.size + 1 - (intOf i).toNat)
  case atStart => exact ⟨0, 0, none, [], Nat.zero_le _, Nat.le_refl _, rfl, rfl, Lib.hid (RW.start t), Lib.hid rfl, ⟨_, _, rfl⟩, World.ownsRow_nil _ _ _ _, Below.refl _ _⟩
  case round =>
    obtain ⟨k, n, at_, dn, hk, hnk, rfl, rfl, HW, HN, ⟨A, c, rfl⟩, hown, hbl⟩ := hrel
    have i1 : (k : Int) ≤ (s.size : Int) := by omega
    have hfin : ∀ (A' : Option Addr) (c' : Nat) (ws : List (List UInt8)) (m : Nat) (W : World), ws.length = m → rs = some ws → W.ownsRow w.heap.size 9 1 (.slice A' m c') m (ws.map strc) → RWordsR rs w (.returned (.tuple #[.slice A' m c', .bool true])) W := fun A' c' ws m W h1 h2 h3 => by
      rw [h2]; subst h1; exact ⟨A', c', rfl, h3⟩
    have HFIN := Lib.hid hfin
    clear hfin

    cases at_ with
    | none =>
      simp only [atV]
      by_cases hend : k = s.size
      · have i2 : ((k : Int) == (s.size : Int)) = true := by rw [beq_iff_eq]; omega
        have HWE : Hid (RW t t.length dn none) := Lib.hid (by rw [← HSZ.out, ← hend]; exact HW.out)
        have HR : Hid (rs = some dn) := Lib.hid (by rw [← HRS.out]; unfold wrds; exact HWE.out.n_end)
        clear hend
        go_wp2
        go_ret2
        exact ⟨HFIN.out _ _ _ _ _ HN.out HR.out hown, hbl⟩
      · have hlt : k < s.size := by omega
        have i2 : ((k : Int) == (s.size : Int)) = false := by rw [beq_eq_false_iff_ne]; omega
        have i3 : (k : Int) < (s.size : Int) := by omega
        have hg := HAT.out k hlt
        obtain ⟨x, hx⟩ : ∃ x : Int, ((s[k]'hlt).toNat : Int) = x := ⟨_, rfl⟩
        have hxb : x < 256 := by have := (s[k]'hlt).toNat_lt; omega
        have hxb0 : 0 ≤ x := by omega
        clear hend
        by_cases q1 : x = 35
        · have HG : Hid (t[k]? = some 35) := Lib.hid (by rw [hg]; congr 1; exact UInt8.toNat_inj.1 (by show _ = 35; omega))
          subst q1
          have HR : Hid (rs = some dn) := Lib.hid (by rw [← HRS.out]; unfold wrds; exact HW.out.n_note HG.out)
          clear hg
          go_wp2
          go_ret2
          exact ⟨HFIN.out _ _ _ _ _ HN.out HR.out hown, hbl⟩
        · have h35 : s[k]'hlt ≠ 35 := fun e => q1 (by rw [← hx, e]; rfl)
          have f1 : (x == 35) = false := by rw [beq_eq_false_iff_ne]; exact q1
          by_cases q2 : x = 32
          · have hb : isBlk (s[k]'hlt) = true := by rw [show s[k]'hlt = 32 from UInt8.toNat_inj.1 (by show _ = 32; omega)]; decide
            have HN2 := Lib.hid (HW.out.n_blk hg hb)
            subst q2
            clear hg hb h35 f1 q1
            go_wp2
            go_roundw
            case rel => exact ⟨k + 1, n, none, dn, by omega, by omega, by go_num, rfl, HN2, HN, ⟨_, _, rfl⟩, hown, hbl⟩
            case measure => simp [intOf]; omega
          · by_cases q3 : x = 9
            · have hb : isBlk (s[k]'hlt) = true := by rw [show s[k]'hlt = 9 from UInt8.toNat_inj.1 (by show _ = 9; omega)]; decide
              have HN2 := Lib.hid (HW.out.n_blk hg hb)
              subst q3
              clear hg hb h35 f1 q1 q2
              go_wp2
              go_roundw
              case rel => exact ⟨k + 1, n, none, dn, by omega, by omega, by go_num, rfl, HN2, HN, ⟨_, _, rfl⟩, hown, hbl⟩
              case measure => simp [intOf]; omega
            · have f2 : (x == 32) = false := by rw [beq_eq_false_iff_ne]; exact q2
              have f3 : (x == 9) = false := by rw [beq_eq_false_iff_ne]; exact q3
              have hb : isBlk (s[k]'hlt) = false := by
                unfold isBlk
                rw [Bool.or_eq_false_iff]
                exact ⟨decide_eq_false (fun e => q2 (by rw [← hx, e]; rfl)), decide_eq_false (fun e => q3 (by rw [← hx, e]; rfl))⟩
              by_cases q4 : x < 33
              · have HR : Hid (rs = none) := Lib.hid (by rw [← HRS.out]; unfold wrds; exact HW.out.n_bad hg hb (decide_eq_false (by omega)) h35)
                clear hg hb h35 q1 q2 q3
                go_wp2
                go_ret2
                exact ⟨by rw [HR.out]; exact rfl, hbl⟩
              · by_cases q5 : 126 < x
                · have HR : Hid (rs = none) := Lib.hid (by rw [← HRS.out]; unfold wrds; exact HW.out.n_bad hg hb (decide_eq_false (by omega)) h35)
                  clear hg hb h35 q1 q2 q3
                  go_wp2
                  go_ret2
                  exact ⟨by rw [HR.out]; exact rfl, hbl⟩
                · have HN2 := Lib.hid (HW.out.n_ok hg (decide_eq_true (by omega)) h35)
                  clear hg hb h35 q1 q2 q3
                  go_wp2
                  go_roundw
                  case rel => exact ⟨k + 1, n, _, dn, by omega, by omega, by go_num, rfl, HN2, HN, ⟨_, _, rfl⟩, hown, hbl⟩
                  case measure => simp [intOf]; omega
    | some p =>
      simp only [atV]
      have hp := HW.out.1
      have hp0 : (0 : Int) ≤ (p : Int) := by omega
      have hp1 : ¬ (p : Int) < 0 := by omega
      by_cases hend : k = s.size
      · have i2 : ((k : Int) == (s.size : Int)) = true := by rw [beq_iff_eq]; omega
        have HWE : Hid (RW t t.length dn (some p)) := Lib.hid (by rw [← HSZ.out, ← hend]; exact HW.out)
        have HR : Hid (rs = some (dn ++ [(t.take k).drop p])) := Lib.hid (by rw [← HRS.out]; unfold wrds; have e : k = t.length := (by have := HSZ.out; omega); rw [e]; exact HWE.out.s_end)
        have HV : Hid (Value.string (s.extract p k) = strc ((t.take k).drop p)) := Lib.hid (by rw [HEX.out]; rfl)
        clear hend
        go_wp2_with (at_builtin; refine wpList_append_own _ rfl _ _ 37 rfl w.heap.size 9 i0 (.string ⟨#[]⟩) 1 16 Tryz.underlying37 hi0 hz0 hz1 hz2 rfl (by decide) _ _ _ rfl (hown.alloc _) ⟨wr.heap.size, 0, none⟩ 1 1 [_] rfl rfl (cell_one_new _ _ _) ?c2 ?c3 ?c4 ?c5 ?_)
        case c2 => first | rfl | (intro u hu; simp at hu; subst hu; rfl)
        case c3 => unfold maxLen; omega
        case c4 => omega
        case c5 => have := hbl.size; simp; omega
        intro v' w3 hown' hgrow _
        have hbA := (hbl.alloc hbl.size _).grown hgrow (by have := hbl.size; simp; omega) (fun j hj => (hown.lt j hj).1)
        obtain ⟨A4, c4, rfl, -⟩ := own_sl hown'
        clear hown hgrow hbl
        have HF2 := Lib.hid (HFIN.out A4 c4 (dn ++ [(t.take k).drop p]) (n + 1) w3 (by rw [List.length_append, HN.out]; rfl) HR.out (by rw [List.map_append, List.map_singleton, ← HV.out]; exact hown'))
        go_wp2
        go_ret2
        exact ⟨HF2.out, hbA⟩
      · have hlt : k < s.size := by omega
        have i2 : ((k : Int) == (s.size : Int)) = false := by rw [beq_eq_false_iff_ne]; omega
        have i3 : (k : Int) < (s.size : Int) := by omega
        have hg := HAT.out k hlt
        obtain ⟨x, hx⟩ : ∃ x : Int, ((s[k]'hlt).toNat : Int) = x := ⟨_, rfl⟩
        have hxb : x < 256 := by have := (s[k]'hlt).toNat_lt; omega
        have hxb0 : 0 ≤ x := by omega
        clear hend
        by_cases q1 : x = 35
        · have HG : Hid (t[k]? = some 35) := Lib.hid (by rw [hg]; congr 1; exact UInt8.toNat_inj.1 (by show _ = 35; omega))
          subst q1
          have HR : Hid (rs = some (dn ++ [(t.take k).drop p])) := Lib.hid (by rw [← HRS.out]; unfold wrds; exact HW.out.s_note HG.out)
          have HV : Hid (Value.string (s.extract p k) = strc ((t.take k).drop p)) := Lib.hid (by rw [HEX.out]; rfl)
          clear hg
          go_wp2_with (at_builtin; refine wpList_append_own _ rfl _ _ 37 rfl w.heap.size 9 i0 (.string ⟨#[]⟩) 1 16 Tryz.underlying37 hi0 hz0 hz1 hz2 rfl (by decide) _ _ _ rfl (hown.alloc _) ⟨wr.heap.size, 0, none⟩ 1 1 [_] rfl rfl (cell_one_new _ _ _) ?c2 ?c3 ?c4 ?c5 ?_)
          case c2 => first | rfl | (intro u hu; simp at hu; subst hu; rfl)
          case c3 => unfold maxLen; omega
          case c4 => omega
          case c5 => have := hbl.size; simp; omega
          intro v' w3 hown' hgrow _
          have hbA := (hbl.alloc hbl.size _).grown hgrow (by have := hbl.size; simp; omega) (fun j hj => (hown.lt j hj).1)
          obtain ⟨A4, c4, rfl, -⟩ := own_sl hown'
          clear hown hgrow hbl
          have HF2 := Lib.hid (HFIN.out A4 c4 (dn ++ [(t.take k).drop p]) (n + 1) w3 (by rw [List.length_append, HN.out]; rfl) HR.out (by rw [List.map_append, List.map_singleton, ← HV.out]; exact hown'))
          go_wp2
          go_ret2
          exact ⟨HF2.out, hbA⟩
        · have h35 : s[k]'hlt ≠ 35 := fun e => q1 (by rw [← hx, e]; rfl)
          have f1 : (x == 35) = false := by rw [beq_eq_false_iff_ne]; exact q1
          by_cases q2 : x = 32
          · have hb : isBlk (s[k]'hlt) = true := by rw [show s[k]'hlt = 32 from UInt8.toNat_inj.1 (by show _ = 32; omega)]; decide
            have HN2 := Lib.hid (HW.out.s_blk hg hb)
            have HV : Hid (Value.string (s.extract p k) = strc ((t.take k).drop p)) := Lib.hid (by rw [HEX.out]; rfl)
            subst q2
            clear hg hb h35 f1 q1
            go_wp2_with (at_builtin; refine wpList_append_own _ rfl _ _ 37 rfl w.heap.size 9 i0 (.string ⟨#[]⟩) 1 16 Tryz.underlying37 hi0 hz0 hz1 hz2 rfl (by decide) _ _ _ rfl (hown.alloc _) ⟨wr.heap.size, 0, none⟩ 1 1 [_] rfl rfl (cell_one_new _ _ _) ?c2 ?c3 ?c4 ?c5 ?_)
            case c2 => first | rfl | (intro u hu; simp at hu; subst hu; rfl)
            case c3 => unfold maxLen; omega
            case c4 => omega
            case c5 => have := hbl.size; simp; omega
            intro v' w3 hown' hgrow _
            have hbA := (hbl.alloc hbl.size _).grown hgrow (by have := hbl.size; simp; omega) (fun j hj => (hown.lt j hj).1)
            obtain ⟨A4, c4, rfl, -⟩ := own_sl hown'
            clear hown hgrow hbl
            go_wp2
            go_roundw
            case rel => exact ⟨k + 1, n + 1, none, _, by omega, by omega, by go_num, rfl, HN2, Lib.hid (by rw [List.length_append, HN.out]; rfl), ⟨_, _, rfl⟩, by rw [List.map_append, List.map_singleton, ← HV.out]; exact hown', hbA⟩
            case measure => simp [intOf]; omega
          · by_cases q3 : x = 9
            · have hb : isBlk (s[k]'hlt) = true := by rw [show s[k]'hlt = 9 from UInt8.toNat_inj.1 (by show _ = 9; omega)]; decide
              have HN2 := Lib.hid (HW.out.s_blk hg hb)
              have HV : Hid (Value.string (s.extract p k) = strc ((t.take k).drop p)) := Lib.hid (by rw [HEX.out]; rfl)
              subst q3
              clear hg hb h35 f1 q1 q2
              go_wp2_with (at_builtin; refine wpList_append_own _ rfl _ _ 37 rfl w.heap.size 9 i0 (.string ⟨#[]⟩) 1 16 Tryz.underlying37 hi0 hz0 hz1 hz2 rfl (by decide) _ _ _ rfl (hown.alloc _) ⟨wr.heap.size, 0, none⟩ 1 1 [_] rfl rfl (cell_one_new _ _ _) ?c2 ?c3 ?c4 ?c5 ?_)
              case c2 => first | rfl | (intro u hu; simp at hu; subst hu; rfl)
              case c3 => unfold maxLen; omega
              case c4 => omega
              case c5 => have := hbl.size; simp; omega
              intro v' w3 hown' hgrow _
              have hbA := (hbl.alloc hbl.size _).grown hgrow (by have := hbl.size; simp; omega) (fun j hj => (hown.lt j hj).1)
              obtain ⟨A4, c4, rfl, -⟩ := own_sl hown'
              clear hown hgrow hbl
              go_wp2
              go_roundw
              case rel => exact ⟨k + 1, n + 1, none, _, by omega, by omega, by go_num, rfl, HN2, Lib.hid (by rw [List.length_append, HN.out]; rfl), ⟨_, _, rfl⟩, by rw [List.map_append, List.map_singleton, ← HV.out]; exact hown', hbA⟩
              case measure => simp [intOf]; omega
            · have f2 : (x == 32) = false := by rw [beq_eq_false_iff_ne]; exact q2
              have f3 : (x == 9) = false := by rw [beq_eq_false_iff_ne]; exact q3
              have hb : isBlk (s[k]'hlt) = false := by
                unfold isBlk
                rw [Bool.or_eq_false_iff]
                exact ⟨decide_eq_false (fun e => q2 (by rw [← hx, e]; rfl)), decide_eq_false (fun e => q3 (by rw [← hx, e]; rfl))⟩
              by_cases q4 : x < 33
              · have HR : Hid (rs = none) := Lib.hid (by rw [← HRS.out]; unfold wrds; exact HW.out.s_bad hg hb (decide_eq_false (by omega)) h35)
                clear hg hb h35 q1 q2 q3
                go_wp2
                go_ret2
                exact ⟨by rw [HR.out]; exact rfl, hbl⟩
              · by_cases q5 : 126 < x
                · have HR : Hid (rs = none) := Lib.hid (by rw [← HRS.out]; unfold wrds; exact HW.out.s_bad hg hb (decide_eq_false (by omega)) h35)
                  clear hg hb h35 q1 q2 q3
                  go_wp2
                  go_ret2
                  exact ⟨by rw [HR.out]; exact rfl, hbl⟩
                · have HN2 := Lib.hid (HW.out.s_ok hg (decide_eq_true (by omega)) h35)
                  clear hg hb h35 q1 q2 q3
                  go_wp2
                  go_roundw
                  case rel => exact ⟨k + 1, n, _, dn, by omega, by omega, by go_num, rfl, HN2, HN, ⟨_, _, rfl⟩, hown, hbl⟩
                  case measure => simp [intOf]; omega
theorem rwords_as {t : List UInt8} {r : Option (List (List UInt8))} (h : Hid (wrds t = r)) (ht : t.length ≤ 1999990) (w : World) :
    Calls Tryz.prog 33 #[.string ⟨t.toArray⟩] w fun e w' => RWordsR r w e w' ∧ Below w.heap.size w w' := by
  have := rwords_any t ht w
  rwa [h.out] at this
set_option maxRecDepth 20000 in
set_option maxHeartbeats 2000000 in
theorem rlines_any (t : List UInt8) (ht : t.length ≤ 1999990) (w : World) :
    Calls Tryz.prog 32 #[.string ⟨t.toArray⟩] w fun e w' => (∃ A c, e = .returned (.slice A (split 10 t).length c) ∧ w'.ownsRow w.heap.size 9 1 (.slice A (split 10 t).length c) (split 10 t).length ((split 10 t).map strc)) ∧ Below w.heap.size w w' := by
  obtain ⟨i0, hi0, hz0, hz1, hz2⟩ := info_parts infoStr
  have hex := Sr.ext_mid t
  obtain ⟨s, hse⟩ : ∃ s : ByteArray, s = ⟨t.toArray⟩ := ⟨_, rfl⟩
  have hsz : s.size = t.length := by subst hse; rfl
  have hat : ∀ (k : Nat) (h1 : k < s.size) (h2 : k < t.length), s[k] = t[k] := by subst hse; intro k h1 h2; rfl
  rw [← hse] at hex ⊢
  have HSZ := Lib.hid hsz
  have HAT := Lib.hid hat
  have HEX := Lib.hid hex
  have hs2 : s.size ≤ 1999990 := by omega
  clear hse hsz hat hex
  go_enter Tryz.func32, Tryz.ntmps32
  go_wp2
  go_loopw [3, 4, 5] (fun v a i wr => ∃ (k p n : Nat) (dn : List (List UInt8)), k ≤ s.size ∧ p ≤ k ∧ n ≤ k ∧ i = .int .i64 (k : Int) ∧ a = .int .i64 (p : Int) ∧ Hid (Cut 10 t k p dn) ∧ Hid (dn.length = n) ∧ (∃ A c, v = .slice A n c) ∧ wr.ownsRow w.heap.size 9 1 v n (dn.map strc) ∧ Below w.heap.size w wr) (fun _ _ i _ => s.size - (intOf i).toNat)
  case atStart => exact ⟨0, 0, 0, [], Nat.zero_le _, Nat.le_refl _, Nat.le_refl _, rfl, rfl, Lib.hid (Cut.start 10 t), Lib.hid rfl, ⟨_, _, rfl⟩, World.ownsRow_nil _ _ _ _, Below.refl _ _⟩
  case round =>
    obtain ⟨k, p, n, dn, hk, hp, hn, rfl, rfl, HC, HN, ⟨A, c, rfl⟩, hown, hbl⟩ := hrel
    by_cases hlt : k < s.size
    · have i1 : (k : Int) < (s.size : Int) := by omega
      have hkl : k < t.length := by rw [← HSZ.out]; exact hlt
      have hck : s[k]'hlt = t[k] := HAT.out k hlt hkl
      obtain ⟨x, hx⟩ : ∃ x : Int, ((s[k]'hlt).toNat : Int) = x := ⟨_, rfl⟩
      by_cases hc : x = 10
      · have hc2 : t[k] = 10 := by rw [← hck]; exact UInt8.toNat_inj.1 (by show _ = 10; omega)
        have HN2 : Hid (Cut 10 t (k + 1) (k + 1) (dn ++ [(t.take k).drop p])) := Lib.hid (HC.out.cut hkl hc2)
        have HV : Hid (Value.string (s.extract p k) = strc ((t.take k).drop p)) := Lib.hid (by rw [HEX.out]; rfl)
        subst hc
        clear hck hc2 hkl
        go_wp2_with (at_builtin; refine wpList_append_own _ rfl _ _ 37 rfl w.heap.size 9 i0 (.string ⟨#[]⟩) 1 16 Tryz.underlying37 hi0 hz0 hz1 hz2 rfl (by decide) _ _ _ rfl (hown.alloc _) ⟨wr.heap.size, 0, none⟩ 1 1 [_] rfl rfl (cell_one_new _ _ _) ?c2 ?c3 ?c4 ?c5 ?_)
        case c2 => first | rfl | (intro u hu; simp at hu; subst hu; rfl)
        case c3 => unfold maxLen; omega
        case c4 => omega
        case c5 => have := hbl.size; simp; omega
        intro v' w3 hown' hgrow _
        have hbA := (hbl.alloc hbl.size _).grown hgrow (by have := hbl.size; simp; omega) (fun j hj => (hown.lt j hj).1)
        obtain ⟨A4, c4, rfl, -⟩ := own_sl hown'
        clear hown hgrow hbl
        go_wp2
        go_roundw
        case rel => exact ⟨k + 1, k + 1, n + 1, _, by omega, Nat.le_refl _, by omega, by go_num, by go_num, HN2, Lib.hid (by rw [List.length_append, HN.out]; rfl), ⟨_, _, rfl⟩, by rw [List.map_append, List.map_singleton, ← HV.out]; exact hown', hbA⟩
        case measure => simp [intOf]; omega
      · have HN2 : Hid (Cut 10 t (k + 1) p dn) := Lib.hid (HC.out.on hkl (by
          rw [← hck]; intro e; exact hc (by rw [← hx, e]; rfl)))
        have f1 : (x == 10) = false := by rw [beq_eq_false_iff_ne]; exact hc
        clear hck hc hkl
        go_wp2
        go_roundw
        case rel => exact ⟨k + 1, p, n, dn, by omega, by omega, by omega, by go_num, rfl, HN2, HN, ⟨_, _, rfl⟩, hown, hbl⟩
        case measure => simp [intOf]; omega
    · obtain rfl : k = s.size := by omega
      have i1 : ¬ (s.size : Int) < (s.size : Int) := by omega
      have HR : Hid (split 10 t = dn ++ [(t.take s.size).drop p]) := Lib.hid (by
        have h1 := (HC.out.last (by rw [HSZ.out])).2.1 (by rw [HSZ.out])
        exact h1)
      have HV : Hid (Value.string (s.extract p s.size) = strc ((t.take s.size).drop p)) := Lib.hid (by rw [HEX.out]; rfl)
      have hpi : (p : Int) ≤ (s.size : Int) := by omega
      go_wp2_with (at_builtin; refine wpList_append_own _ rfl _ _ 37 rfl w.heap.size 9 i0 (.string ⟨#[]⟩) 1 16 Tryz.underlying37 hi0 hz0 hz1 hz2 rfl (by decide) _ _ _ rfl (hown.alloc _) ⟨wr.heap.size, 0, none⟩ 1 1 [_] rfl rfl (cell_one_new _ _ _) ?c2 ?c3 ?c4 ?c5 ?_)
      case c2 => first | rfl | (intro u hu; simp at hu; subst hu; rfl)
      case c3 => unfold maxLen; omega
      case c4 => omega
      case c5 => have := hbl.size; simp; omega
      intro v' w3 hown' hgrow _
      have hbA := (hbl.alloc hbl.size _).grown hgrow (by have := hbl.size; simp; omega) (fun j hj => (hown.lt j hj).1)
      obtain ⟨A4, c4, rfl, -⟩ := own_sl hown'
      clear hown hgrow hbl
      have HLN : Hid ((split 10 t).length = n + 1) := Lib.hid (by rw [HR.out, List.length_append, HN.out]; rfl)
      have HOW : Hid (w3.ownsRow w.heap.size 9 1 (.slice A4 (n + 1) c4) (n + 1) ((split 10 t).map strc)) := Lib.hid (by rw [HR.out, List.map_append, List.map_singleton, ← HV.out]; exact hown')
      clear hown'
      go_wp2
      go_ret
      refine ⟨?_, hbA⟩
      rw [HLN.out]
      exact ⟨A4, c4, rfl, HOW.out⟩
end Go.Proofs.YtpkmekdpmkfcdaaGreatDoor.Sr

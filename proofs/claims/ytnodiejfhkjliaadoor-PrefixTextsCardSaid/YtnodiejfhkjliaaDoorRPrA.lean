/- Contract: an address's text, by the reference. -/
import Derived.Test.YtnodiejfhkjliaaDoorRHex
import Derived.Test.YtnodiejfhkjliaaDoorRPutA
namespace Go.Proofs.YtnodiejfhkjliaaDoor.Pf
open Go.RowKit Go.Proofs.YtnodiejfhkjliaaDoor.Wd Go.Proofs.YtnodiejfhkjliaaDoor.Px Go.Proofs.YtnodiejfhkjliaaDoor.By Go.Proofs.YtnodiejfhkjliaaDoor.En Go.Proofs.YtnodiejfhkjliaaDoor.Pl

/-- the text so far: of four bytes, of sixteen -/
def tx4 (bs : List UInt8) : Nat → List UInt8
  | 0 => []
  | k + 1 => if k = 0 then tx4 bs k ++ Lib.decDigits (bs.getD k 0).toNat else tx4 bs k ++ 46 :: Lib.decDigits (bs.getD k 0).toNat
def tx16 (bs : List UInt8) : Nat → List UInt8
  | 0 => []
  | k + 1 => if k = 0 ∨ k % 2 = 1 then tx16 bs k ++ Px.hx (bs.getD k 0) else tx16 bs k ++ 58 :: Px.hx (bs.getD k 0)
theorem tx4_step (bs : List UInt8) (k : Nat) (h : k < bs.length) : tx4 bs (k + 1) = if k = 0 then tx4 bs k ++ Lib.decDigits bs[k].toNat else tx4 bs k ++ 46 :: Lib.decDigits bs[k].toNat := by
  rw [tx4, List.getD_eq_getElem?_getD, List.getElem?_eq_getElem h]; rfl
theorem tx16_step (bs : List UInt8) (k : Nat) (h : k < bs.length) : tx16 bs (k + 1) = if k = 0 ∨ k % 2 = 1 then tx16 bs k ++ Px.hx bs[k] else tx16 bs k ++ 58 :: Px.hx bs[k] := by
  rw [tx16, List.getD_eq_getElem?_getD, List.getElem?_eq_getElem h]; rfl
theorem tx4_len (bs : List UInt8) : ∀ k, (tx4 bs k).length ≤ 4 * k
  | 0 => Nat.le_refl _
  | k + 1 => by
    have h := tx4_len bs k
    have h2 := (bs.getD k 0).toNat_lt
    have h3 := decDigits_len_le 3 (bs.getD k 0).toNat (by omega) (by omega)
    rw [tx4]
    split <;> simp only [List.length_append, List.length_cons] <;> omega
theorem tx16_len (bs : List UInt8) : ∀ k, (tx16 bs k).length ≤ 3 * k
  | 0 => Nat.le_refl _
  | k + 1 => by
    have h := tx16_len bs k
    rw [tx16]
    split <;> simp only [List.length_append, List.length_cons, Px.hx, List.length_nil] <;> omega
theorem rhex_as {u : UInt8} {x : Nat} {t : List UInt8} (h : Hid (u.toNat = x)) (h2 : Hid (Px.hx u = t)) (w : World) :
    Calls Tryd.prog 50 #[.int .u8 (x : Int)] w fun e w' => e = .returned (.string ⟨t.toArray⟩) ∧ Below w.heap.size w w' := by
  have := rhex_any u x h.out w
  rwa [h2.out] at this
theorem dot_cat (a b : List UInt8) (s : UInt8) : (⟨a.toArray⟩ : ByteArray) ++ ⟨#[s]⟩ ++ ⟨b.toArray⟩ = ⟨(a ++ s :: b).toArray⟩ := by
  rw [show (⟨#[s]⟩ : ByteArray) = ⟨([s] : List UInt8).toArray⟩ from rfl, str_cat, str_cat]
  simp

set_option maxRecDepth 20000 in
set_option maxHeartbeats 2000000 in
theorem rprintaddr_4 (f : Int) (hi lo : Nat) (w : World) (hE : Env w) (hh : hi < 18446744073709551616) (hl : lo < 18446744073709551616) (HN : Hid ((paB f hi lo).length = 4)) :
    Calls Tryd.prog 26 #[.agg #[.int .i64 f, .int .u64 hi, .int .u64 lo]] w fun e w' => e = .returned (strc (tx4 (paB f hi lo) 4)) ∧ Below w.heap.size w w' := by
  have ha := ab_new w f hi lo 24
  have hbl := one w (.cells #[.int .i64 f, .int .u64 hi, .int .u64 lo] 24)
  obtain ⟨bs, hbs⟩ : ∃ bs, paB f hi lo = bs := ⟨_, rfl⟩
  rw [hbs] at HN
  have HBS := Lib.hid hbs
  rw [hbs]
  clear hbs
  go_enter Tryd.func26, Tryd.ntmps26
  go_wp2_with fail
  refine (rputaddr_any f hi lo _ hh hl).mono ?_
  rintro e w1 ⟨v1, rfl, hown1, hb1⟩
  rw [HBS.out, HN.out] at hown1
  obtain ⟨A, c, rfl⟩ := own_slice hown1
  have hs1 := own_shows hown1
  have hbl1 := hbl.trans (hb1.mono hbl.size)
  clear ha hbl hb1 hown1
  go_wp2
  go_loopw [4, 5] (fun s i wr => ∃ (k : Nat) (S : ByteArray), k ≤ 4 ∧ i = .int .i64 (k : Int) ∧ s = .string S ∧ Hid (S = ⟨(tx4 bs k).toArray⟩) ∧ Below w1.heap.size w1 wr) (fun _ i _ => 4 - (intOf i).toNat)
  case atStart => exact ⟨0, _, Nat.zero_le _, rfl, rfl, Lib.hid rfl, Below.refl _ _⟩
  case round =>
    obtain ⟨k, S, hk, rfl, rfl, HS, hbk⟩ := hrel
    have hs := hs1.below hbk
    by_cases hlt : k < 4
    · obtain ⟨b, o, rfl, hb2, hc⟩ := hs (by rw [HN.out]; omega)
      have hkl : k < bs.length := by rw [HN.out]; exact hlt
      have c0 := hc k _ (List.getElem?_eq_getElem hkl)
      clear hc
      have hst := tx4_step bs k hkl
      obtain ⟨u, hu⟩ : ∃ u : UInt8, bs[k]'hkl = u := ⟨_, rfl⟩
      rw [hu] at c0 hst
      obtain ⟨x, hx⟩ : ∃ x : Nat, u.toNat = x := ⟨_, rfl⟩
      unfold cel at c0
      rw [hx] at c0
      have hx2 : x < 256 := by rw [← hx]; exact UInt8.toNat_lt _
      have HST := Lib.hid hst
      clear hst hu hkl
      have i1 : (k : Int) < 4 := by omega
      obtain ⟨t, ht⟩ : ∃ t, Lib.decDigits u.toNat = t := ⟨_, rfl⟩
      have ht3 : t.length ≤ 3 := by rw [← ht]; exact decDigits_len_le 3 _ (by omega) (by omega)
      have HU : Hid (Lib.decDigits (x : Int).toNat = t) := Lib.hid (by rw [← ht, hx]; rfl)
      have hS : S.size ≤ 16 := by
        have e := HS.out
        have := tx4_len bs k
        rw [e]
        show (tx4 bs k).length ≤ 16
        omega
      rw [ht] at HST
      clear hx ht
      by_cases hk0 : k = 0
      · subst hk0
        rw [Nat.add_zero] at c0
        go_wp2_with fail
        refine (itoa_as HU _ (hE.on (hbl1.trans (hbk.mono hbl1.size))) (by omega) (by omega)).mono ?_
        rintro e w5 ⟨rfl, hb5⟩
        have hbk5 := hbk.trans (hb5.mono hbk.size)
        clear hbk hb5
        go_wp2
        go_roundw
        case rel => exact ⟨1, _, by omega, by go_num, rfl, Lib.hid (by rw [HST.out, HS.out, str_cat]; rfl), hbk5⟩
        case measure => simp [intOf]
      · have i2 : (0 : Int) < (k : Int) := by omega
        have hk0' : 0 < k := by omega
        have HK := Lib.hid hk0
        clear hk0
        go_wp2_with fail
        refine (itoa_as HU _ (hE.on (hbl1.trans (hbk.mono hbl1.size))) (by omega) (by omega)).mono ?_
        rintro e w5 ⟨rfl, hb5⟩
        have hbk5 := hbk.trans (hb5.mono hbk.size)
        clear hbk hb5
        go_wp2
        go_roundw
        case rel => exact ⟨k + 1, _, by omega, by go_num, rfl, Lib.hid (by rw [HST.out, HS.out, if_neg HK.out]; exact dot_cat _ _ _), hbk5⟩
        case measure => simp [intOf]; omega
    · obtain rfl : k = 4 := by omega
      go_wp2
      go_ret
      exact ⟨by rw [HS.out]; rfl, hbl1.trans (hbk.mono hbl1.size)⟩

set_option maxRecDepth 20000 in
set_option maxHeartbeats 2000000 in
theorem rprintaddr_16 (f : Int) (hi lo : Nat) (w : World) (hh : hi < 18446744073709551616) (hl : lo < 18446744073709551616) (HN : Hid ((paB f hi lo).length = 16)) :
    Calls Tryd.prog 26 #[.agg #[.int .i64 f, .int .u64 hi, .int .u64 lo]] w fun e w' => e = .returned (strc (tx16 (paB f hi lo) 16)) ∧ Below w.heap.size w w' := by
  have ha := ab_new w f hi lo 24
  have hbl := one w (.cells #[.int .i64 f, .int .u64 hi, .int .u64 lo] 24)
  obtain ⟨bs, hbs⟩ : ∃ bs, paB f hi lo = bs := ⟨_, rfl⟩
  rw [hbs] at HN
  have HBS := Lib.hid hbs
  rw [hbs]
  clear hbs
  go_enter Tryd.func26, Tryd.ntmps26
  go_wp2_with fail
  refine (rputaddr_any f hi lo _ hh hl).mono ?_
  rintro e w1 ⟨v1, rfl, hown1, hb1⟩
  rw [HBS.out, HN.out] at hown1
  obtain ⟨A, c, rfl⟩ := own_slice hown1
  have hs1 := own_shows hown1
  have hbl1 := hbl.trans (hb1.mono hbl.size)
  clear ha hbl hb1 hown1
  go_wp2
  go_loopw [4, 5] (fun s i wr => ∃ (k : Nat) (S : ByteArray), k ≤ 16 ∧ i = .int .i64 (k : Int) ∧ s = .string S ∧ Hid (S = ⟨(tx16 bs k).toArray⟩) ∧ Below w1.heap.size w1 wr) (fun _ i _ => 16 - (intOf i).toNat)
  case atStart => exact ⟨0, _, Nat.zero_le _, rfl, rfl, Lib.hid rfl, Below.refl _ _⟩
  case round =>
    obtain ⟨k, S, hk, rfl, rfl, HS, hbk⟩ := hrel
    have hs := hs1.below hbk
    by_cases hlt : k < 16
    · obtain ⟨b, o, rfl, hb2, hc⟩ := hs (by rw [HN.out]; omega)
      have hkl : k < bs.length := by rw [HN.out]; exact hlt
      have c0 := hc k _ (List.getElem?_eq_getElem hkl)
      clear hc
      have hst := tx16_step bs k hkl
      obtain ⟨u, hu⟩ : ∃ u : UInt8, bs[k]'hkl = u := ⟨_, rfl⟩
      rw [hu] at c0 hst
      obtain ⟨x, hx⟩ : ∃ x : Nat, u.toNat = x := ⟨_, rfl⟩
      unfold cel at c0
      rw [hx] at c0
      have hx2 : x < 256 := by rw [← hx]; exact UInt8.toNat_lt _
      have HST := Lib.hid hst
      clear hst hu hkl
      have i1 : (k : Int) < 16 := by omega
      obtain ⟨t, ht⟩ : ∃ t, Px.hx u = t := ⟨_, rfl⟩
      have ht3 : t.length = 2 := by rw [← ht]; rfl
      have HU := Lib.hid hx
      have HT2 := Lib.hid ht
      have hS : S.size ≤ 48 := by
        have e := HS.out
        have := tx16_len bs k
        rw [e]
        show (tx16 bs k).length ≤ 48
        omega
      rw [ht] at HST
      have ht4 : t.length ≤ 2 := by omega
      clear hx ht ht3
      by_cases hk0 : k = 0
      · subst hk0
        rw [Nat.add_zero] at c0
        go_wp2_with fail
        refine (rhex_as HU HT2 _).mono ?_
        rintro e w5 ⟨rfl, hb5⟩
        have hbk5 := hbk.trans (hb5.mono hbk.size)
        clear hbk hb5
        go_wp2
        go_roundw
        case rel => exact ⟨1, _, by omega, by go_num, rfl, Lib.hid (by rw [HST.out, HS.out, if_pos (by simp), str_cat]), hbk5⟩
        case measure => simp [intOf]
      · have i2 : (0 : Int) < (k : Int) := by omega
        have hk0' : 0 < k := by omega
        by_cases hk1 : k % 2 = 1
        · have HK := Lib.hid hk1
          have i3 : (k : Int).tmod 2 = 1 := by rw [Int.tmod_eq_emod_of_nonneg (by omega)]; omega
          clear hk0 hk1
          go_wp2_with fail
          refine (rhex_as HU HT2 _).mono ?_
          rintro e w5 ⟨rfl, hb5⟩
          have hbk5 := hbk.trans (hb5.mono hbk.size)
          clear hbk hb5
          go_wp2
          go_roundw
          case rel => exact ⟨k + 1, _, by omega, by go_num, rfl, Lib.hid (by rw [HST.out, HS.out, if_pos (.inr HK.out), str_cat]), hbk5⟩
          case measure => simp [intOf]; omega
        · have HK : Hid (¬ (k = 0 ∨ k % 2 = 1)) := Lib.hid (by omega)
          have i3 : (k : Int).tmod 2 = 0 := by rw [Int.tmod_eq_emod_of_nonneg (by omega)]; omega
          clear hk0 hk1
          go_wp2_with fail
          refine (rhex_as HU HT2 _).mono ?_
          rintro e w5 ⟨rfl, hb5⟩
          have hbk5 := hbk.trans (hb5.mono hbk.size)
          clear hbk hb5
          go_wp2
          go_roundw
          case rel => exact ⟨k + 1, _, by omega, by go_num, rfl, Lib.hid (by rw [HST.out, HS.out, if_neg HK.out]; exact dot_cat _ _ _), hbk5⟩
          case measure => simp [intOf]; omega
    · obtain rfl : k = 16 := by omega
      go_wp2
      go_ret
      exact ⟨by rw [HS.out]; rfl, hbl1.trans (hbk.mono hbl1.size)⟩

end Go.Proofs.YtnodiejfhkjliaaDoor.Pf

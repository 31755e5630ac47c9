/- Contract: two hexadecimal digits, by the reference. Contract: an address's text, by the reference. Contracts: an address's and a prefix's text, by the reference. -/
import Derived.Test.YtpkmekdpmkfcdaaGreatDoorME
import Derived.Deep.RegionHeld3
import Derived.StillTailTactics
import Derived.Test.YtpkmekdpmkfcdaaGreatDoorRPutA
import Derived.Test.YtpkmekdpmkfcdaaGreatDoorRPutB
namespace Go.Proofs.YtpkmekdpmkfcdaaGreatDoor.Pf
open Go.RowKit Go.Proofs.YtpkmekdpmkfcdaaGreatDoor.Wd Go.Proofs.YtpkmekdpmkfcdaaGreatDoor.Px Go.Proofs.YtpkmekdpmkfcdaaGreatDoor.By Go.Proofs.YtpkmekdpmkfcdaaGreatDoor.En Go.Proofs.YtpkmekdpmkfcdaaGreatDoor.Pl

set_option maxRecDepth 20000 in
set_option maxHeartbeats 1000000 in
theorem rhex_any (c : UInt8) (x : Nat) (hcx : c.toNat = x) (w : World) :
    Calls Tryz.prog 241 #[.int .u8 (x : Int)] w fun e w' => e = .returned (.string ⟨(Px.hx c).toArray⟩) ∧ Below w.heap.size w w' := by
  have hx2 : x < 256 := by rw [← hcx]; exact UInt8.toNat_lt _
  have hh : Px.hx c = [hexd (x / 16), hexd (x % 16)] := by rw [← hcx]; rfl
  obtain ⟨qa, hqa⟩ : ∃ q : Nat, x / 16 = q := ⟨_, rfl⟩
  obtain ⟨ra, hra⟩ : ∃ q : Nat, x % 16 = q := ⟨_, rfl⟩
  have e1 : (x : Int) / 16 = (qa : Int) := by omega
  have e2 : (x : Int).tmod 16 = (ra : Int) := by rw [Int.tmod_eq_emod_of_nonneg (by omega)]; omega
  rw [hqa, hra] at hh
  obtain ⟨da, hda⟩ : ∃ d : Nat, (hexd qa).toNat = d := ⟨_, rfl⟩
  obtain ⟨db, hdb⟩ : ∃ d : Nat, (hexd ra).toNat = d := ⟨_, rfl⟩
  have f1 := hexd_index qa da (by omega) hda
  have f2 := hexd_index ra db (by omega) hdb
  have hw1 : IntKind.u8.wrap (qa : Int) = qa := by rw [IntKind.wrap_u8]; omega
  have hw2 : IntKind.u8.wrap (ra : Int) = ra := by rw [IntKind.wrap_u8]; omega
  have HC := Lib.hid (show [hexd qa, hexd ra].map cel = [.int .u8 da, .int .u8 db] by simp [cel, hda, hdb])
  have HH := Lib.hid hh
  clear hqa hra hda hdb hh hcx
  have hcv : ∀ wd : World, (convert 85 9 (.slice (some ⟨wd.heap.size, 0, none⟩) 2 2)).run Tryz.prog (wd.alloc (.cells #[.int .u8 da, .int .u8 db] 5)) = .ok (.string ⟨([hexd qa, hexd ra]).toArray⟩) (wd.alloc (.cells #[.int .u8 da, .int .u8 db] 5)) := by
    intro wd
    exact run_convert_bytes_back (P := Tryz.prog) (wd.alloc (.cells #[.int .u8 da, .int .u8 db] 5)) 85 9 5 ⟨wd.heap.size, 0, none⟩ 2 [hexd qa, hexd ra] Tryz.underlying85 Tryz.underlying5 Tryz.underlying9 (fun j hj => by
      have := cells_new wd #[.int .u8 da, .int .u8 db] 5 j (cel [hexd qa, hexd ra][j]) (by
        show ([.int .u8 da, .int .u8 db] : List Value)[j]? = _
        rw [← HC.out, List.getElem?_map, List.getElem?_eq_getElem hj]
        rfl)
      exact this)
  obtain ⟨tx, htx⟩ : ∃ tx : List UInt8, [hexd qa, hexd ra] = tx := ⟨_, rfl⟩
  rw [htx] at hcv
  have HTX := Lib.hid htx
  clear htx
  go_enter Tryz.func241, Tryz.ntmps241
  go_upto_region 2 with fail
  refine wp_region_still_tail 8 (by kernel_rfl) (by kernel_rfl) ?_
  simp only [List.take_succ_cons, List.take_zero, List.drop_succ_cons, List.drop_zero]
  change wpStill _ _ w.drew (fun a' => wpList _ _ _ _ a' w.drew) _ _
  have hbl := (Below.refl w.heap.size w).drew
  generalize w.drew = wd at hbl ⊢
  repeat still_step
  refine wpStill_nil ?_
  go_wp2
  go_ret
  refine ⟨?_, hbl.alloc hbl.size _⟩
  rw [HH.out, HTX.out]
  rfl

end Go.Proofs.YtpkmekdpmkfcdaaGreatDoor.Pf

namespace Go.Proofs.YtpkmekdpmkfcdaaGreatDoor.Pf
open Go.RowKit Go.Proofs.YtpkmekdpmkfcdaaGreatDoor.Wd Go.Proofs.YtpkmekdpmkfcdaaGreatDoor.Px Go.Proofs.YtpkmekdpmkfcdaaGreatDoor.By Go.Proofs.YtpkmekdpmkfcdaaGreatDoor.En Go.Proofs.YtpkmekdpmkfcdaaGreatDoor.Pl

/-- the text so far: of four bytes, of sixteen -/
def tx4 (bs : List UInt8) : Nat → List UInt8
  | 0 => []
  | k + 1 => if k = 0 then tx4 bs k ++ Lib.decDigits (bs.getD k 0).toNat else tx4 bs k ++ 46 :: Lib.decDigits (bs.getD k 0).toNat
def tx16 (bs : List UInt8) : Nat → List UInt8
  | 0 => []
  | k + 1 => if k = 0 ∨ k % 2 = 1 then tx16 bs k ++ Px.hx (bs.getD k 0) else tx16 bs k ++ 58 :: Px.hx (bs.getD k 0)
theorem tx4_step (bs : List UInt8) (k : Nat) (h : k < bs.length) : tx4 bs (k + 1) = if k = 0 then tx4 bs k ++ Lib.decDigits bs[k].toNat else tx4 bs k ++ 46 :: Lib.decDigits bs[k].toNat := by
  rw [tx4, List.getD_eq_getElem?_getD, List.getElem?_eq_getElem h]; rfl
theorem tx16_step (bs : List UInt8) (k : Nat) (h : k < bs.length) : tx16 bs (k + 1) = if k = 0 ∨ k % 2 = 1 then tx16 bs k ++ Px.hx bs[k] else tx16 bs k ++ 58 :: Px.hx bs[k] := by
  rw [tx16, List.getD_eq_getElem?_getD, List.getElem?_eq_getElem h]; rfl
theorem tx4_len (bs : List UInt8) : ∀ k, (tx4 bs k).length ≤ 4 * k
  | 0 => Nat.le_refl _
  | k + 1 => by
    have h := tx4_len bs k
    have h2 := (bs.getD k 0).toNat_lt
    have h3 := decDigits_len_le 3 (bs.getD k 0).toNat (by omega) (by omega)
    rw [tx4]
    split <;> simp only [List.length_append, List.length_cons] <;> omega
theorem tx16_len (bs : List UInt8) : ∀ k, (tx16 bs k).length ≤ 3 * k
  | 0 => Nat.le_refl _
  | k + 1 => by
    have h := tx16_len bs k
    rw [tx16]
    split <;> simp only [List.length_append, List.length_cons, Px.hx, List.length_nil] <;> omega
theorem rhex_as {u : UInt8} {x : Nat} {t : List UInt8} (h : Hid (u.toNat = x)) (h2 : Hid (Px.hx u = t)) (w : World) :
    Calls Tryz.prog 241 #[.int .u8 (x : Int)] w fun e w' => e = .returned (.string ⟨t.toArray⟩) ∧ Below w.heap.size w w' := by
  have := rhex_any u x h.out w
  rwa [h2.out] at this
theorem dot_cat (a b : List UInt8) (s : UInt8) : (⟨a.toArray⟩ : ByteArray) ++ ⟨#[s]⟩ ++ ⟨b.toArray⟩ = ⟨(a ++ s :: b).toArray⟩ := by
  rw [show (⟨#[s]⟩ : ByteArray) = ⟨([s] : List UInt8).toArray⟩ from rfl, str_cat, str_cat]
  simp

set_option maxRecDepth 20000 in
set_option maxHeartbeats 2000000 in
theorem rprintaddr_4 (f : Int) (hi lo : Nat) (w : World) (hE : Env w) (hh : hi < 18446744073709551616) (hl : lo < 18446744073709551616) (HN : Hid ((paB f hi lo).length = 4)) :
    Calls Tryz.prog 162 #[.agg #[.int .i64 f, .int .u64 hi, .int .u64 lo]] w fun e w' => e = .returned (strc (tx4 (paB f hi lo) 4)) ∧ Below w.heap.size w w' := by
  have ha := ab_new w f hi lo 88
  have hbl := one w (.cells #[.int .i64 f, .int .u64 hi, .int .u64 lo] 88)
  obtain ⟨bs, hbs⟩ : ∃ bs, paB f hi lo = bs := ⟨_, rfl⟩
  rw [hbs] at HN
  have HBS := Lib.hid hbs
  rw [hbs]
  clear hbs
  go_enter Tryz.func162, Tryz.ntmps162
  go_wp2_with fail
  refine (rputaddr_any f hi lo _ hh hl).mono ?_
  rintro e w1 ⟨v1, rfl, hown1, hb1⟩
  rw [HBS.out, HN.out] at hown1
  obtain ⟨A, c, rfl⟩ := own_slice hown1
  have hs1 := own_shows hown1
  have hbl1 := hbl.trans (hb1.mono hbl.size)
  clear ha hbl hb1 hown1
  go_wp2
  go_loopw [4, 5] (fun s i wr => ∃ (k : Nat) (S : ByteArray), k ≤ 4 ∧ i = .int .i64 (k : Int) ∧ s = .string S ∧ Hid (S = ⟨(tx4 bs k).toArray⟩) ∧ Below w1.heap.size w1 wr) (fun _ i _ => 4 - (intOf i).toNat)
  case atStart => exact ⟨0, _, Nat.zero_le _, rfl, rfl, Lib.hid rfl, Below.refl _ _⟩
  case round =>
    obtain ⟨k, S, hk, rfl, rfl, HS, hbk⟩ := hrel
    have hs := hs1.below hbk
    by_cases hlt : k < 4
    · obtain ⟨b, o, rfl, hb2, hc⟩ := hs (by rw [HN.out]; omega)
      have hkl : k < bs.length := by rw [HN.out]; exact hlt
      have c0 := hc k _ (List.getElem?_eq_getElem hkl)
      clear hc
      have hst := tx4_step bs k hkl
      obtain ⟨u, hu⟩ : ∃ u : UInt8, bs[k]'hkl = u := ⟨_, rfl⟩
      rw [hu] at c0 hst
      obtain ⟨x, hx⟩ : ∃ x : Nat, u.toNat = x := ⟨_, rfl⟩
      unfold cel at c0
      rw [hx] at c0
      have hx2 : x < 256 := by rw [← hx]; exact UInt8.toNat_lt _
      have HST := Lib.hid hst
      clear hst hu hkl
      have i1 : (k : Int) < 4 := by omega
      obtain ⟨t, ht⟩ : ∃ t, Lib.decDigits u.toNat = t := ⟨_, rfl⟩
      have ht3 : t.length ≤ 3 := by rw [← ht]; exact decDigits_len_le 3 _ (by omega) (by omega)
      have HU : Hid (Lib.decDigits (x : Int).toNat = t) := Lib.hid (by rw [← ht, hx]; rfl)
      have hS : S.size ≤ 16 := by
        have e := HS.out
        have := tx4_len bs k
        rw [e]
        show (tx4 bs k).length ≤ 16
        omega
      rw [ht] at HST
      clear hx ht
      by_cases hk0 : k = 0
      · subst hk0
        rw [Nat.add_zero] at c0
        go_wp2_with fail
        refine (itoa_as HU _ (hE.on (hbl1.trans (hbk.mono hbl1.size))) (by omega) (by omega)).mono ?_
        rintro e w5 ⟨rfl, hb5⟩
        have hbk5 := hbk.trans (hb5.mono hbk.size)
        clear hbk hb5
        go_wp2
        go_roundw
        case rel => exact ⟨1, _, by omega, by go_num, rfl, Lib.hid (by rw [HST.out, HS.out, str_cat]; rfl), hbk5⟩
        case measure => simp [intOf]
      · have i2 : (0 : Int) < (k : Int) := by omega
        have hk0' : 0 < k := by omega
        have HK := Lib.hid hk0
        clear hk0
        go_wp2_with fail
        refine (itoa_as HU _ (hE.on (hbl1.trans (hbk.mono hbl1.size))) (by omega) (by omega)).mono ?_
        rintro e w5 ⟨rfl, hb5⟩
        have hbk5 := hbk.trans (hb5.mono hbk.size)
        clear hbk hb5
        go_wp2
        go_roundw
        case rel => exact ⟨k + 1, _, by omega, by go_num, rfl, Lib.hid (by rw [HST.out, HS.out, if_neg HK.out]; exact dot_cat _ _ _), hbk5⟩
        case measure => simp [intOf]; omega
    · obtain rfl : k = 4 := by omega
      go_wp2
      go_ret
      exact ⟨by rw [HS.out]; rfl, hbl1.trans (hbk.mono hbl1.size)⟩

set_option maxRecDepth 20000 in
set_option maxHeartbeats 2000000 in
theorem rprintaddr_16 (f : Int) (hi lo : Nat) (w : World) (hh : hi < 18446744073709551616) (hl : lo < 18446744073709551616) (HN : Hid ((paB f hi lo).length = 16)) :
    Calls Tryz.prog 162 #[.agg #[.int .i64 f, .int .u64 hi, .int .u64 lo]] w fun e w' => e = .returned (strc (tx16 (paB f hi lo) 16)) ∧ Below w.heap.size w w' := by
  have ha := ab_new w f hi lo 88
  have hbl := one w (.cells #[.int .i64 f, .int .u64 hi, .int .u64 lo] 88)
  obtain ⟨bs, hbs⟩ : ∃ bs, paB f hi lo = bs := ⟨_, rfl⟩
  rw [hbs] at HN
  have HBS := Lib.hid hbs
  rw [hbs]
  clear hbs
  go_enter Tryz.func162, Tryz.ntmps162
  go_wp2_with fail
  refine (rputaddr_any f hi lo _ hh hl).mono ?_
  rintro e w1 ⟨v1, rfl, hown1, hb1⟩
  rw [HBS.out, HN.out] at hown1
  obtain ⟨A, c, rfl⟩ := own_slice hown1
  have hs1 := own_shows hown1
  have hbl1 := hbl.trans (hb1.mono hbl.size)
  clear ha hbl hb1 hown1
  go_wp2
  go_loopw [4, 5] (fun s i wr => ∃ (k : Nat) (S : ByteArray), k ≤ 16 ∧ i = .int .i64 (k : Int) ∧ s = .string S ∧ Hid (S = ⟨(tx16 bs k).toArray⟩) ∧ Below w1.heap.size w1 wr) (fun _ i _ => 16 - (intOf i).toNat)
  case atStart => exact ⟨0, _, Nat.zero_le _, rfl, rfl, Lib.hid rfl, Below.refl _ _⟩
  case round =>
    obtain ⟨k, S, hk, rfl, rfl, HS, hbk⟩ := hrel
    have hs := hs1.below hbk
    by_cases hlt : k < 16
    · obtain ⟨b, o, rfl, hb2, hc⟩ := hs (by rw [HN.out]; omega)
      have hkl : k < bs.length := by rw [HN.out]; exact hlt
      have c0 := hc k _ (List.getElem?_eq_getElem hkl)
      clear hc
      have hst := tx16_step bs k hkl
      obtain ⟨u, hu⟩ : ∃ u : UInt8, bs[k]'hkl = u := ⟨_, rfl⟩
      rw [hu] at c0 hst
      obtain ⟨x, hx⟩ : ∃ x : Nat, u.toNat = x := ⟨_, rfl⟩
      unfold cel at c0
      rw [hx] at c0
      have hx2 : x < 256 := by rw [← hx]; exact UInt8.toNat_lt _
      have HST := Lib.hid hst
      clear hst hu hkl
      have i1 : (k : Int) < 16 := by omega
      obtain ⟨t, ht⟩ : ∃ t, Px.hx u = t := ⟨_, rfl⟩
      have ht3 : t.length = 2 := by rw [← ht]; rfl
      have HU := Lib.hid hx
      have HT2 := Lib.hid ht
      have hS : S.size ≤ 48 := by
        have e := HS.out
        have := tx16_len bs k
        rw [e]
        show (tx16 bs k).length ≤ 48
        omega
      rw [ht] at HST
      have ht4 : t.length ≤ 2 := by omega
      clear hx ht ht3
      by_cases hk0 : k = 0
      · subst hk0
        rw [Nat.add_zero] at c0
        go_wp2_with fail
        refine (rhex_as HU HT2 _).mono ?_
        rintro e w5 ⟨rfl, hb5⟩
        have hbk5 := hbk.trans (hb5.mono hbk.size)
        clear hbk hb5
        go_wp2
        go_roundw
        case rel => exact ⟨1, _, by omega, by go_num, rfl, Lib.hid (by rw [HST.out, HS.out, if_pos (by simp), str_cat]), hbk5⟩
        case measure => simp [intOf]
      · have i2 : (0 : Int) < (k : Int) := by omega
        have hk0' : 0 < k := by omega
        by_cases hk1 : k % 2 = 1
        · have HK := Lib.hid hk1
          have i3 : (k : Int).tmod 2 = 1 := by rw [Int.tmod_eq_emod_of_nonneg (by omega)]; omega
          clear hk0 hk1
          go_wp2_with fail
          refine (rhex_as HU HT2 _).mono ?_
          rintro e w5 ⟨rfl, hb5⟩
          have hbk5 := hbk.trans (hb5.mono hbk.size)
          clear hbk hb5
          go_wp2
          go_roundw
          case rel => exact ⟨k + 1, _, by omega, by go_num, rfl, Lib.hid (by rw [HST.out, HS.out, if_pos (.inr HK.out), str_cat]), hbk5⟩
          case measure => simp [intOf]; omega
        · have HK : Hid (¬ (k = 0 ∨ k % 2 = 1)) := Lib.hid (by omega)
          have i3 : (k : Int).tmod 2 = 0 := by rw [Int.tmod_eq_emod_of_nonneg (by omega)]; omega
          clear hk0 hk1
          go_wp2_with fail
          refine (rhex_as HU HT2 _).mono ?_
          rintro e w5 ⟨rfl, hb5⟩
          have hbk5 := hbk.trans (hb5.mono hbk.size)
          clear hbk hb5
          go_wp2
          go_roundw
          case rel => exact ⟨k + 1, _, by omega, by go_num, rfl, Lib.hid (by rw [HST.out, HS.out, if_neg HK.out]; exact dot_cat _ _ _), hbk5⟩
          case measure => simp [intOf]; omega
    · obtain rfl : k = 16 := by omega
      go_wp2
      go_ret
      exact ⟨by rw [HS.out]; rfl, hbl1.trans (hbk.mono hbl1.size)⟩

end Go.Proofs.YtpkmekdpmkfcdaaGreatDoor.Pf

namespace Go.Proofs.YtpkmekdpmkfcdaaGreatDoor.Pf
open Go.RowKit Go.Proofs.YtpkmekdpmkfcdaaGreatDoor.Wd Go.Proofs.YtpkmekdpmkfcdaaGreatDoor.Px Go.Proofs.YtpkmekdpmkfcdaaGreatDoor.By Go.Proofs.YtpkmekdpmkfcdaaGreatDoor.En Go.Proofs.YtpkmekdpmkfcdaaGreatDoor.Pl

theorem tx4_join : ∀ (bs : List UInt8), bs.length = 4 → tx4 bs 4 = join 46 (decs bs)
  | [a, b, c, d], _ => by simp [tx4, decs, join]
theorem tx16_join : ∀ (bs : List UInt8), bs.length = 16 → tx16 bs 16 = join 58 (hexs bs)
  | [a, b, c, d, e, f, g, h, i, j, k, l, m, n, o, p], _ => by simp [tx16, hexs, join, ← hx_pair]

set_option maxRecDepth 20000 in
set_option maxHeartbeats 2000000 in
theorem rprintaddr_0 (f : Int) (hi lo : Nat) (w : World) (HV : Hid (vA f hi lo = false)) :
    Calls Tryz.prog 162 #[.agg #[.int .i64 f, .int .u64 hi, .int .u64 lo]] w fun e w' => e = .returned (strc []) ∧ Below w.heap.size w w' := by
  have hbl := one w (.cells #[.int .i64 f, .int .u64 hi, .int .u64 lo] 88)
  go_enter Tryz.func162, Tryz.ntmps162
  go_wp2_with fail
  refine (rputaddr_no f hi lo _ HV).mono ?_
  rintro e w1 ⟨rfl, hb1⟩
  have hbl1 := hbl.trans (hb1.mono hbl.size)
  clear hbl hb1
  go_wp2
  go_loopw [4, 5] (fun s i wr => i = .int .i64 0 ∧ s = .string ⟨#[]⟩ ∧ wr = w1) (fun _ _ _ => 0)
  case atStart => exact ⟨rfl, rfl, rfl⟩
  case round =>
    obtain ⟨rfl, rfl, rfl⟩ := hrel
    go_wp2
    go_ret
    exact ⟨rfl, hbl1⟩

theorem rprintaddr_any (f : Int) (hi lo : Nat) (w : World) (hE : Env w) (hh : hi < 18446744073709551616) (hl : lo < 18446744073709551616) :
    Calls Tryz.prog 162 #[.agg #[.int .i64 f, .int .u64 hi, .int .u64 lo]] w fun e w' => e = .returned (strc (prT f hi lo)) ∧ Below w.heap.size w w' := by
  cases hv : vA f hi lo with
  | false => rw [prT_no hv]; exact rprintaddr_0 f hi lo w (Lib.hid hv)
  | true =>
    rcases (vA_iff f hi lo).1 hv with rfl | ⟨rfl, rfl, h3⟩
    · have hlen : (paB 6 hi lo).length = 16 := by rw [paB_6, List.length_append, be_len, be_len]
      rw [← prT_hex (by omega) hh hl, ← tx16_join _ hlen]
      exact rprintaddr_16 6 hi lo w hh hl (Lib.hid hlen)
    · have hlen : (paB 4 0 lo).length = 4 := by rw [paB_4 h3, be_len]
      rw [← prT_dec, ← tx4_join _ hlen]
      exact rprintaddr_4 4 0 lo w hE hh hl (Lib.hid hlen)
theorem rprintaddr_as {f : Int} {hi lo : Nat} {t : List UInt8} (h : Hid (prT f hi lo = t)) (w : World) (hE : Env w) (hh : hi < 18446744073709551616) (hl : lo < 18446744073709551616) :
    Calls Tryz.prog 162 #[.agg #[.int .i64 f, .int .u64 hi, .int .u64 lo]] w fun e w' => e = .returned (.string ⟨t.toArray⟩) ∧ Below w.heap.size w w' := by
  have := rprintaddr_any f hi lo w hE hh hl
  rwa [h.out] at this
theorem rprint_no (f : Int) (hi lo : Nat) (b : Int) (w : World) (hh : hi < 18446744073709551616) (hl : lo < 18446744073709551616) (HP : Hid (vP f hi lo b = false)) :
    Calls Tryz.prog 75 #[.agg #[.int .i64 f, .int .u64 hi, .int .u64 lo, .int .i64 b]] w fun e w' => e = .returned (.string ⟨#[]⟩) ∧ Below w.heap.size w w' := by
  have hbl := one w (.cells #[.int .i64 f, .int .u64 hi, .int .u64 lo, .int .i64 b] 90)
  go_enter Tryz.func75, Tryz.ntmps75
  go_wp2_with fail
  refine (rvalid_as HP _ hh hl).mono ?_
  rintro e w1 ⟨rfl, hb1⟩
  have hbl1 := hbl.trans (hb1.mono hbl.size)
  clear hbl hb1
  go_wp2
  go_ret
  exact ⟨rfl, hbl1⟩

set_option maxRecDepth 20000 in
set_option maxHeartbeats 2000000 in
theorem rprint_yes (f : Int) (hi lo b : Nat) (w : World) (hE : Env w) (hh : hi < 18446744073709551616) (hl : lo < 18446744073709551616) (hb : b ≤ 128) (HP : Hid (vP f hi lo b = true)) (t u : List UInt8) (HT : Hid (prT f hi lo = t)) (HU : Hid (Lib.decDigits (b : Int).toNat = u)) (ht : t.length ≤ 39) (hu : u.length ≤ 3) :
    Calls Tryz.prog 75 #[.agg #[.int .i64 f, .int .u64 hi, .int .u64 lo, .int .i64 b]] w fun e w' => e = .returned (.string ⟨(t ++ 47 :: u).toArray⟩) ∧ Below w.heap.size w w' := by
  have hp := pb_new w f hi lo b 90
  have hbl := one w (.cells #[.int .i64 f, .int .u64 hi, .int .u64 lo, .int .i64 b] 90)
  go_enter Tryz.func75, Tryz.ntmps75
  go_wp2_with fail
  refine (rvalid_as HP _ hh hl).mono ?_
  rintro e w1 ⟨rfl, hb1⟩
  have hbl1 := hbl.trans (hb1.mono hbl.size)
  have hp1 := hp.on hb1
  have hE1 := hE.on hbl1
  clear hbl hp hb1
  have e0 := after_cell hp1.c0
  have e1 := after_cell hp1.c1
  have e2 := after_cell hp1.c2
  have e3 := after_cell hp1.c3
  clear hp1
  have hb0 : (0 : Int) ≤ (b : Int) := by omega
  have hb9 : (b : Int) ≤ 9223372036854775807 := by omega
  go_upto_region 4 with fail
  refine wp_region_after (by kernel_rfl) (by kernel_rfl) ?_
  repeat (go_big_quiet_step ((first
    | (go_at_call 162; exact after_of (rprintaddr_as HT _ (hE1.on (After.b _)) hh hl))
    | (go_at_call 55; exact after_of (itoa_as HU _ (hE1.on (After.b _)) hb0 hb9)))))
  refine wpQuiet_nil ?_
  rintro _ ⟨x, rfl⟩
  have hx := x.b
  clear e0 e1 e2 e3
  go_wp2
  go_ret
  refine ⟨ret_str ?_, hbl1.trans (hx.mono hbl1.size)⟩
  simp only [str_cat, List.append_assoc, List.cons_append, List.nil_append]

theorem rprint_any (f : Int) (hi lo : Nat) (b : Int) (w : World) (hE : Env w) (hh : hi < 18446744073709551616) (hl : lo < 18446744073709551616) :
    Calls Tryz.prog 75 #[.agg #[.int .i64 f, .int .u64 hi, .int .u64 lo, .int .i64 b]] w fun e w' => e = .returned (strc (pT f hi lo b)) ∧ Below w.heap.size w w' := by
  cases hv : vP f hi lo b with
  | false => rw [pT_no hv]; exact rprint_no f hi lo b w hh hl (Lib.hid hv)
  | true =>
    obtain ⟨hvA, hb0, hbw, -⟩ := (vP_iff f hi lo b).1 hv
    obtain ⟨c, rfl⟩ : ∃ c : Nat, b = c := ⟨b.toNat, by omega⟩
    have hw := wid_le f
    rw [pT_yes hv]
    exact rprint_yes f hi lo c w hE hh hl (by omega) (Lib.hid hv) _ _ (Lib.hid rfl) (Lib.hid rfl) (prT_len f hi lo) (decDigits_len_le 3 _ (by omega) (by omega))

end Go.Proofs.YtpkmekdpmkfcdaaGreatDoor.Pf

/- Contract: the value of a digit, by the reference. Contract: the number that digits spell, by the reference. Plain: what the reference's guess of an address's own text is; no walk. Contract: a text cut at each of a byte, by the reference. -/
import Derived.Test.YtpkmekdpmkfcdaaGreatDoorMJ
import Derived.Test.YtpkmekdpmkfcdaaGreatDoorCmpA
import Derived.Test.YtpkmekdpmkfcdaaGreatDoorRPr
namespace Go.Proofs.YtpkmekdpmkfcdaaGreatDoor.Pf
open Go.RowKit Go.Proofs.YtpkmekdpmkfcdaaGreatDoor.Wd Go.Proofs.YtpkmekdpmkfcdaaGreatDoor.Px Go.Proofs.YtpkmekdpmkfcdaaGreatDoor.By Go.Proofs.YtpkmekdpmkfcdaaGreatDoor.En Go.Proofs.YtpkmekdpmkfcdaaGreatDoor.Pl

/-- the value of a small hexadecimal digit, -1: it is none -/
def dgt (x : Int) : Int := if 48 ≤ x ∧ x ≤ 57 then x - 48 else if 97 ≤ x ∧ x ≤ 102 then x - 87 else -1
set_option maxRecDepth 20000 in
theorem digit_any (x : Int) (h0 : 0 ≤ x) (hx : x ≤ 255) (w : World) : Calls Tryz.prog 261 #[.int .u8 x] w fun e w' => e = .returned (.int .i64 (dgt x)) ∧ w' = w := by
  have c : x < 48 ∨ (48 ≤ x ∧ x ≤ 57) ∨ (57 < x ∧ x < 97) ∨ (97 ≤ x ∧ x ≤ 102) ∨ 102 < x := by omega
  obtain ⟨d, hd⟩ : ∃ d, dgt x = d := ⟨_, rfl⟩
  have HD := Lib.hid hd
  rw [hd]
  unfold dgt at hd
  rcases c with c | ⟨c1, c2⟩ | ⟨c1, c2⟩ | ⟨c1, c2⟩ | c
  · have e1 : ¬ 48 ≤ x := by omega
    have e2 : ¬ 97 ≤ x := by omega
    obtain rfl : d = -1 := by rw [← hd, if_neg (by omega), if_neg (by omega)]
    clear hd c
    go_enter Tryz.func261, Tryz.ntmps261
    go_wp2
    go_ret
    exact ⟨rfl, rfl⟩
  · obtain rfl : d = x - 48 := by rw [← hd, if_pos ⟨c1, c2⟩]
    clear hd
    go_enter Tryz.func261, Tryz.ntmps261
    go_wp2
    go_ret
    exact ⟨rfl, rfl⟩
  · have e1 : 48 ≤ x := by omega
    have e2 : ¬ x ≤ 57 := by omega
    have e3 : ¬ 97 ≤ x := by omega
    obtain rfl : d = -1 := by rw [← hd, if_neg (by omega), if_neg (by omega)]
    clear hd c1 c2
    go_enter Tryz.func261, Tryz.ntmps261
    go_wp2
    go_ret
    exact ⟨rfl, rfl⟩
  · have e1 : 48 ≤ x := by omega
    have e2 : ¬ x ≤ 57 := by omega
    obtain rfl : d = x - 87 := by rw [← hd, if_neg (by omega), if_pos ⟨c1, c2⟩]
    clear hd
    go_enter Tryz.func261, Tryz.ntmps261
    go_wp2
    go_ret
    exact ⟨ret_i (by omega), rfl⟩
  · have e1 : 48 ≤ x := by omega
    have e2 : ¬ x ≤ 57 := by omega
    have e3 : 97 ≤ x := by omega
    have e4 : ¬ x ≤ 102 := by omega
    obtain rfl : d = -1 := by rw [← hd, if_neg (by omega), if_neg (by omega)]
    clear hd c
    go_enter Tryz.func261, Tryz.ntmps261
    go_wp2
    go_ret
    exact ⟨rfl, rfl⟩

end Go.Proofs.YtpkmekdpmkfcdaaGreatDoor.Pf

namespace Go.Proofs.YtpkmekdpmkfcdaaGreatDoor.Pf
open Go.RowKit Go.Proofs.YtpkmekdpmkfcdaaGreatDoor.Wd Go.Proofs.YtpkmekdpmkfcdaaGreatDoor.Px Go.Proofs.YtpkmekdpmkfcdaaGreatDoor.By Go.Proofs.YtpkmekdpmkfcdaaGreatDoor.En Go.Proofs.YtpkmekdpmkfcdaaGreatDoor.Pl

/-- what is spelled behind n, -1: a byte is no digit -/
def rdN (base n : Int) : List UInt8 → Int
  | [] => n
  | c :: r => if dgt (c.toNat : Int) < 0 ∨ base ≤ dgt (c.toNat : Int) then -1 else rdN base (n * base + dgt (c.toNat : Int)) r
def numN (base : Int) (t : List UInt8) : Int := if t.length = 0 ∨ 4 < t.length then -1 else rdN base 0 t
theorem rdN_drop {base n : Int} {t : List UInt8} {k : Nat} (h : k < t.length) : rdN base n (t.drop k) = if dgt (t[k].toNat : Int) < 0 ∨ base ≤ dgt (t[k].toNat : Int) then -1 else rdN base (n * base + dgt (t[k].toNat : Int)) (t.drop (k + 1)) := by
  rw [List.drop_eq_getElem_cons h]; rfl

theorem digit_as {x d : Int} (h : Hid (dgt x = d)) (h0 : 0 ≤ x) (hx : x ≤ 255) (w : World) : Calls Tryz.prog 261 #[.int .u8 x] w fun e w' => e = .returned (.int .i64 d) ∧ w' = w := by
  have := digit_any x h0 hx w
  rwa [h.out] at this
set_option maxRecDepth 20000 in
set_option maxHeartbeats 1000000 in
theorem number_in (t : List UInt8) (base : Int) (hb : 2 ≤ base) (hb2 : base ≤ 16) (h0 : 0 < t.length) (h4 : t.length ≤ 4) (w : World) :
    Calls Tryz.prog 232 #[.string ⟨t.toArray⟩, .int .i64 base] w fun e w' => e = .returned (.int .i64 (rdN base 0 t)) ∧ w' = w := by
  have hsz : (⟨t.toArray⟩ : ByteArray).size = t.length := rfl
  obtain ⟨s, hs⟩ : ∃ s : ByteArray, s = ⟨t.toArray⟩ := ⟨_, rfl⟩
  have hat : ∀ (k : Nat) (h1 : k < s.size) (h2 : k < t.length), s[k] = t[k] := by subst hs; intro k h1 h2; rfl
  rw [← hs] at hsz ⊢
  have HAT := Lib.hid hat
  have HSZ := Lib.hid hsz
  have hs0 : 0 < s.size := by omega
  have hs4 : s.size ≤ 4 := by omega
  have e1 : ((s.size : Int) == 0) = false := by rw [beq_eq_false_iff_ne]; omega
  clear hat hs hsz
  go_enter Tryz.func232, Tryz.ntmps232
  go_wp2
  go_loop [5, 6] (fun n i => ∃ (k : Nat) (N : Int), k ≤ s.size ∧ i = .int .i64 (k : Int) ∧ n = .int .i64 N ∧ 0 ≤ N ∧ N < 16 ^ k ∧ Hid (rdN base N (t.drop k) = rdN base 0 t)) (fun _ i => s.size - (intOf i).toNat)
  case atStart => exact ⟨0, 0, Nat.zero_le _, rfl, rfl, Int.le_refl _, by decide, Lib.hid rfl⟩
  case round =>
    obtain ⟨k, N, hk, rfl, rfl, hN0, hN, HR⟩ := hrel
    by_cases hlt : k < s.size
    · have i1 : (k : Int) < (s.size : Int) := by omega
      have hkl : k < t.length := by rw [← HSZ.out]; exact hlt
      have hst := rdN_drop (base := base) (n := N) hkl
      rw [HR.out, ← HAT.out k hlt hkl] at hst
      obtain ⟨x, hx⟩ : ∃ x : Int, ((s[k]'hlt).toNat : Int) = x := ⟨_, rfl⟩
      have hx0 : 0 ≤ x := by omega
      have hx9 : x ≤ 255 := by have := (s[k]'hlt).toNat_lt; omega
      rw [hx] at hst
      obtain ⟨d, hd⟩ : ∃ d, dgt x = d := ⟨_, rfl⟩
      rw [hd] at hst
      have HD := Lib.hid hd
      have HST := Lib.hid hst
      have hNb : N * base ≤ N * 16 := Int.mul_le_mul_of_nonneg_left hb2 hN0
      have hNb0 : 0 ≤ N * base := Int.mul_nonneg hN0 (by omega)
      have hpk : (16 : Int) ^ k ≤ 4096 := by
        have : k = 0 ∨ k = 1 ∨ k = 2 ∨ k = 3 := by omega
        rcases this with rfl | rfl | rfl | rfl <;> decide
      have hpk1 : (16 : Int) ^ (k + 1) = 16 ^ k * 16 := Int.pow_succ ..
      clear hd hst hkl
      go_wp2_with fail
      refine (digit_as HD hx0 hx9 _).mono ?_
      rintro e w' ⟨rfl, rfl⟩
      by_cases hbad : d < 0 ∨ base ≤ d
      · have HB := Lib.hid hbad
        rcases hbad with hbad | hbad
        · go_wp2
          go_ret
          exact ⟨ret_i (by have := HST.out; rw [if_pos HB.out] at this; exact this.symm), rfl⟩
        · have hd0 : ¬ d < 0 := by omega
          go_wp2
          go_ret
          exact ⟨ret_i (by have := HST.out; rw [if_pos HB.out] at this; exact this.symm), rfl⟩
      · have HB := Lib.hid hbad
        have hd0 : ¬ d < 0 := by omega
        have hd1 : ¬ base ≤ d := by omega
        have hn0 : 0 ≤ N * base + d := by omega
        have hn1 : N * base + d < 16 ^ (k + 1) := by rw [hpk1]; omega
        have HN1 := Lib.hid hn1
        have w1' : IntKind.i64.wrap (N * base) = N * base := IntWalk.i64_in _ ⟨by omega, by omega⟩
        have w2' : IntKind.i64.wrap (N * base + d) = N * base + d := IntWalk.i64_in _ ⟨by omega, by omega⟩
        clear hbad hpk1 hn1
        go_wp2
        go_round
        case rel => exact ⟨k + 1, N * base + d, by omega, by go_num, rfl, hn0, HN1.out, Lib.hid (by have := HST.out; rw [if_neg HB.out] at this; exact this.symm)⟩
        case measure => simp [intOf]; omega
    · go_wp2
      go_ret
      exact ⟨ret_i (by have := HR.out; rw [List.drop_of_length_le (by have := HSZ.out; omega)] at this; exact this), rfl⟩

theorem number_out (t : List UInt8) (base : Int) (h : t.length = 0 ∨ 4 < t.length) (w : World) :
    Calls Tryz.prog 232 #[.string ⟨t.toArray⟩, .int .i64 base] w fun e w' => e = .returned (.int .i64 (-1)) ∧ w' = w := by
  have hsz : (⟨t.toArray⟩ : ByteArray).size = t.length := rfl
  obtain ⟨s, hs⟩ : ∃ s : ByteArray, s = ⟨t.toArray⟩ := ⟨_, rfl⟩
  rw [← hs] at hsz ⊢
  clear hs
  rcases h with h | h
  · have e1 : ((s.size : Int) == 0) = true := by rw [beq_iff_eq]; omega
    clear hsz h
    go_enter Tryz.func232, Tryz.ntmps232
    go_wp2
    go_ret
    exact ⟨rfl, rfl⟩
  · have e1 : ((s.size : Int) == 0) = false := by rw [beq_eq_false_iff_ne]; omega
    have e2 : (4 : Int) < (s.size : Int) := by omega
    clear hsz h
    go_enter Tryz.func232, Tryz.ntmps232
    go_wp2
    go_ret
    exact ⟨rfl, rfl⟩
theorem number_any (t : List UInt8) (base : Int) (hb : 2 ≤ base) (hb2 : base ≤ 16) (w : World) :
    Calls Tryz.prog 232 #[.string ⟨t.toArray⟩, .int .i64 base] w fun e w' => e = .returned (.int .i64 (numN base t)) ∧ w' = w := by
  unfold numN
  by_cases h : t.length = 0 ∨ 4 < t.length
  · rw [if_pos h]; exact number_out t base h w
  · rw [if_neg h]; exact number_in t base hb hb2 (by omega) (by omega) w

end Go.Proofs.YtpkmekdpmkfcdaaGreatDoor.Pf

namespace Go.Proofs.YtpkmekdpmkfcdaaGreatDoor.Pf
open Go.RowKit Go.Proofs.YtpkmekdpmkfcdaaGreatDoor.Wd Go.Proofs.YtpkmekdpmkfcdaaGreatDoor.Px Go.Proofs.YtpkmekdpmkfcdaaGreatDoor.By Go.Proofs.YtpkmekdpmkfcdaaGreatDoor.En Go.Proofs.YtpkmekdpmkfcdaaGreatDoor.Pl
open Go.Lib (decDigits)

/-! ### cutting, from the left -/
def spl (s : UInt8) (cur : List UInt8) : List UInt8 → List (List UInt8)
  | [] => [cur]
  | c :: r => if c = s then cur :: spl s [] r else spl s (cur ++ [c]) r
theorem spl_split (s : UInt8) : ∀ (l cur : List UInt8), spl s cur l = (match split s l with | [] => [cur] | h :: t => (cur ++ h) :: t)
  | [], cur => by simp [spl, split]
  | c :: r, cur => by
    have hr := split_ne s r
    by_cases h : c = s
    · rw [spl, if_pos h, split, if_pos h, spl_split s r []]
      cases e : split s r with
      | nil => exact absurd e hr
      | cons a t => simp
    · rw [spl, if_neg h, split, if_neg h, spl_split s r]
      cases e : split s r with
      | nil => exact absurd e hr
      | cons a t => simp
theorem spl_nil (s : UInt8) (l : List UInt8) : spl s [] l = split s l := by
  rw [spl_split]
  cases e : split s l with
  | nil => exact absurd e (split_ne s l)
  | cons a t => simp
theorem split_count (s : UInt8) : ∀ l : List UInt8, (split s l).length ≤ l.length + 1
  | [] => by simp [split]
  | c :: r => by
    have h := split_count s r
    rw [split]
    split
    · simp; omega
    · split
      · simp
      · rename_i a t e
        rw [e] at h
        simp at h ⊢; omega
theorem ext_mid (t : List UInt8) (a k : Nat) : (⟨t.toArray⟩ : ByteArray).extract a k = ⟨((t.take k).drop a).toArray⟩ := by
  apply ByteArray.ext
  simp [List.extract, List.drop_take]
theorem mid_step {t : List UInt8} {a k : Nat} (h : k < t.length) (ha : a ≤ k) : (t.take (k + 1)).drop a = (t.take k).drop a ++ [t[k]] := by
  rw [List.take_add_one, List.getElem?_eq_getElem h, List.drop_append_of_le_length (by rw [List.length_take]; omega)]
  rfl
theorem mid_none (t : List UInt8) (k : Nat) : (t.take k).drop k = [] := List.drop_of_length_le (by rw [List.length_take]; omega)
theorem part_mid_len (t : List UInt8) (a k : Nat) : ((t.take k).drop a).length ≤ t.length := by rw [List.length_drop, List.length_take]; omega

/-! ### numbers -/
theorem dgt_hexd : ∀ x, x < 16 → dgt ((hexd x).toNat : Int) = x := by decide
theorem rdN_step {base n : Int} {c : UInt8} {r : List UInt8} {d : Int} (h : dgt (c.toNat : Int) = d) (h0 : 0 ≤ d) (h1 : d < base) : rdN base n (c :: r) = rdN base (n * base + d) r := by
  rw [rdN, h, if_neg (by omega)]
theorem dgt_dig {c : UInt8} (h : isDig c = true) : dgt (c.toNat : Int) = (c.toNat : Int) - 48 ∧ 48 ≤ c.toNat ∧ c.toNat ≤ 57 := by
  simp only [isDig, decide_eq_true_eq] at h
  obtain ⟨h1, h2⟩ := h
  refine ⟨?_, h1, h2⟩
  unfold dgt
  rw [if_pos ⟨by omega, by omega⟩]
theorem rdN_dec : ∀ (l : List UInt8) (a : Nat), (∀ c ∈ l, isDig c = true) → rdN 10 (a : Int) l = (valA a l : Int)
  | [], a, _ => rfl
  | c :: r, a, h => by
    obtain ⟨e, h1, h2⟩ := dgt_dig (h c (by simp))
    rw [rdN_step e (by omega) (by omega)]
    have ih := rdN_dec r (a * 10 + (c.toNat - 48)) (fun x hx => h x (by simp [hx]))
    have hc : (a : Int) * 10 + ((c.toNat : Int) - 48) = ((a * 10 + (c.toNat - 48) : Nat) : Int) := by omega
    rw [hc, ih]
    rfl
theorem numN_dec (d : Nat) (h : d < 10000) : numN 10 (decDigits d) = (d : Int) := by
  have hl := decDigits_len_le 4 d (by omega) (by omega)
  have hne : (decDigits d).length ≠ 0 := by
    intro e
    have := decDigits_ne d
    exact this (List.eq_nil_of_length_eq_zero e)
  have := rdN_dec (decDigits d) 0 (decDigits_dig d)
  rw [decDigits_val] at this
  rw [numN, if_neg (by omega)]
  exact this
theorem numN_hex4 (g : Nat) (h : g < 65536) : numN 16 (hex4 g) = (g : Int) := by
  have e : ∀ x, x < 16 → dgt ((hexd x).toNat : Int) = (x : Int) := dgt_hexd
  rw [numN, if_neg (by simp [hex4])]
  rw [hex4, rdN_step (e _ (by omega)) (by omega) (by omega), rdN_step (e _ (by omega)) (by omega) (by omega), rdN_step (e _ (by omega)) (by omega) (by omega), rdN_step (e _ (by omega)) (by omega) (by omega)]
  rw [rdN]
  omega

/-! ### guess -/
/-- a byte of an int -/
def by8 (n : Int) : UInt8 := UInt8.ofNat (n % 256).toNat
theorem by8_nat (n : Nat) : by8 (n : Int) = UInt8.ofNat (n % 256) := by
  unfold by8; congr 1
theorem cel_by8 (n : Int) : cel (by8 n) = .int .u8 (IntKind.u8.wrap n) := by
  have h0 : 0 ≤ n % 256 := Int.emod_nonneg _ (by omega)
  have h1 : n % 256 < 256 := Int.emod_lt_of_pos _ (by omega)
  rw [by8, cel_nat _ (by omega), IntKind.wrap_u8]
  congr 1
  omega
/-- the bytes that a text seems to say: of four parts, of the first eight ones -/
def gs4 (l : List (List UInt8)) : List UInt8 := l.map fun p => by8 (numN 10 p)
def gs6 : List (List UInt8) → List UInt8
  | [] => []
  | p :: r => by8 ((numN 16 p).tdiv 256) :: by8 (numN 16 p) :: gs6 r
theorem gs6_len : ∀ l, (gs6 l).length = 2 * l.length
  | [] => rfl
  | p :: r => by simp only [gs6, List.length_cons, gs6_len r]; omega
theorem gs6_snoc : ∀ (l : List (List UInt8)) (p : List UInt8), gs6 (l ++ [p]) = gs6 l ++ [by8 ((numN 16 p).tdiv 256), by8 (numN 16 p)]
  | [], p => rfl
  | q :: r, p => by simp only [List.cons_append, gs6, gs6_snoc r p]
theorem gs6_take (l : List (List UInt8)) (k : Nat) (h : k < l.length) : gs6 (l.take (k + 1)) = gs6 (l.take k) ++ [by8 ((numN 16 l[k]).tdiv 256), by8 (numN 16 l[k])] := by
  rw [List.take_add_one, List.getElem?_eq_getElem h]
  exact gs6_snoc _ _
theorem gs4_take (l : List (List UInt8)) (k : Nat) (h : k < l.length) : gs4 (l.take (k + 1)) = gs4 (l.take k) ++ [by8 (numN 10 l[k])] := by
  rw [List.take_add_one, List.getElem?_eq_getElem h]
  show List.map _ (l.take k ++ [l[k]]) = _
  rw [List.map_append]
  rfl
/-- the address that a text seems to say: family and number -/
def gsA (t : List UInt8) : Int × Nat :=
  if (split 46 t).length = 4 then (4, ofB (gs4 (split 46 t)))
  else if 8 ≤ (split 58 t).length then (6, ofB (gs6 ((split 58 t).take 8))) else (0, 0)

theorem gs4_prt (n : Nat) : gs4 ((dgs 256 4 n).map decDigits) = be 4 n := by
  unfold gs4 be
  rw [List.map_map]
  apply List.map_congr_left
  intro d hd
  have h := dgs_lt 256 4 (by omega) n d hd
  show by8 (numN 10 (decDigits d)) = _
  rw [numN_dec d (by omega), by8_nat, Nat.mod_eq_of_lt h]
theorem gs6_ofB (ds : List Nat) (h : ∀ d ∈ ds, d < 65536) : ofB (gs6 (ds.map hex4)) = ofD 65536 ds := by
  induction ds using snoc_ind with
  | h0 => simp [gs6, ofB, ofD]
  | h1 l d ih =>
    have hd := h d (by simp)
    rw [List.map_append, List.map_singleton, gs6_snoc, ofB_two, ih (fun x hx => h x (by simp [hx])), numN_hex4 d hd, ofD_snoc]
    have e1 : (d : Int).tdiv 256 = ((d / 256 : Nat) : Int) := by
      rw [Int.tdiv_eq_ediv_of_nonneg (by omega)]; omega
    rw [e1, by8_nat, by8_nat]
    have h1 : d / 256 % 256 < 256 := Nat.mod_lt _ (by omega)
    have h2 : d % 256 < 256 := Nat.mod_lt _ (by omega)
    simp only [ofB, ofD, List.map_cons, List.map_nil, List.foldl_cons, List.foldl_nil, List.length_cons, List.length_nil, UInt8.toNat_ofNat']
    omega
theorem gsA_prt {f : Int} {n : Nat} (h : okA f n = true) : gsA (prA f n) = (f, n) := by
  rw [okA_iff] at h
  rcases h with ⟨rfl, h⟩ | ⟨rfl, h⟩
  · have h46 : (46 : UInt8) ∉ prA 6 n := by
      rw [prA_6 n h]
      intro hc
      rcases mem_join _ _ _ hc with e | ⟨a, ha, hc⟩
      · exact absurd e (by decide)
      · obtain ⟨d, _, rfl⟩ := List.mem_map.1 ha
        exact hex4_no (.inr (.inr rfl)) d hc
    have hl : ((dgs 65536 8 n).map hex4).length = 8 := by rw [List.length_map, dgs_len]
    unfold gsA
    rw [split_one _ _ h46, if_neg (by simp), split_6 n h, if_pos (by omega), List.take_of_length_le (by omega), gs6_ofB _ (dgs_lt 65536 8 (by omega) n), ofD_dgs _ _ _ h]
  · have hl : ((dgs 256 4 n).map decDigits).length = 4 := by rw [List.length_map, dgs_len]
    unfold gsA
    rw [split_4 n h, if_pos hl, gs4_prt, ofB_be 4 n h]
theorem ofB_lt4 (l : List UInt8) (h : l.length = 4) : ofB l < 4294967296 := by
  have := ofB_lt l
  rw [h] at this; exact this
theorem ofB_lt16 (l : List UInt8) (h : l.length = 16) : ofB l < 340282366920938463463374607431768211456 := by
  have := ofB_lt l
  rw [h] at this; exact this
/-- what is guessed is an address, or is none at all -/
theorem gsA_ok (t : List UInt8) : gsA t = (0, 0) ∨ okA (gsA t).1 (gsA t).2 = true := by
  unfold gsA
  split
  · rename_i h
    exact .inr ((okA_iff _ _).2 (.inr ⟨rfl, ofB_lt4 _ (by simp [gs4, h])⟩))
  · split
    · rename_i h
      exact .inr ((okA_iff _ _).2 (.inl ⟨rfl, ofB_lt16 _ (by rw [gs6_len, List.length_take]; omega)⟩))
    · exact .inl rfl
/-- a text is an address's just where what is guessed is printed as it -/
theorem prsA_guess {t : List UInt8} (h : prA (gsA t).1 (gsA t).2 = t) (hne : t ≠ []) : prsA t = some (gsA t) := by
  rcases gsA_ok t with e | hk
  · rw [e] at h
    exact absurd h.symm hne
  · have := prsA_prt hk
    rw [h] at this
    exact this
theorem prsA_noguess {t : List UInt8} (h : prA (gsA t).1 (gsA t).2 ≠ t ∨ t = []) : prsA t = none := prsA_none fun f n hk e => by
  rcases h with h | h
  · rw [← e, gsA_prt hk] at h
    exact h rfl
  · exact prA_ne hk (e.trans h)
/-- likewise of a prefix: its parts -/
theorem prsP_two {t x y : List UInt8} (hs : split 47 t = [x, y]) {f : Int} {n : Nat} {b : Int} (h : okP f n b = true) (e : prP f n b = t) : prsA x = some (f, n) ∧ numN 10 y = b := by
  have := prP_split h
  rw [e, hs] at this
  injection this with e1 e2
  injection e2 with e2 _
  obtain ⟨h1, h2, h3, -⟩ := (okP_iff _ _ _).1 h
  have hw := wid_le f
  refine ⟨by rw [e1]; exact prsA_prt h1, ?_⟩
  rw [e2, numN_dec _ (by omega)]
  omega
theorem prsP_many {t : List UInt8} (hs : (split 47 t).length ≠ 2) : prsP t = none := prsP_none fun f n b h e => by
  have := prP_split h
  rw [e] at this
  rw [this] at hs
  exact hs rfl
theorem prsP_noA {t x y : List UInt8} (hs : split 47 t = [x, y]) (hx : prsA x = none) : prsP t = none := prsP_none fun f n b h e => by
  have := (prsP_two hs h e).1
  rw [hx] at this; cases this
theorem prsP_noT {t x y : List UInt8} (hs : split 47 t = [x, y]) {f : Int} {N : Nat} (hx : prsA x = some (f, N)) (h : prP f N (numN 10 y) ≠ t) : prsP t = none := prsP_none fun f' n b hk e => by
  obtain ⟨h1, h2⟩ := prsP_two hs hk e
  rw [hx] at h1
  injection h1 with h1
  injection h1 with h1 h3
  subst h1 h3
  rw [h2] at h
  exact h e
theorem prsP_yes {t : List UInt8} {f : Int} {N : Nat} {b : Int} (hne : t ≠ []) (h : prP f N b = t) : prsP t = some (f, N, b) := by
  have hk : okP f N b = true := by
    cases hk : okP f N b with
    | true => rfl
    | false =>
      unfold prP at h
      rw [hk, if_neg (by simp)] at h
      exact absurd h.symm hne
  rw [← h]; exact prsP_prt hk

end Go.Proofs.YtpkmekdpmkfcdaaGreatDoor.Pf

namespace Go.Proofs.YtpkmekdpmkfcdaaGreatDoor.Pf
open Go.RowKit Go.Proofs.YtpkmekdpmkfcdaaGreatDoor.Wd Go.Proofs.YtpkmekdpmkfcdaaGreatDoor.Px Go.Proofs.YtpkmekdpmkfcdaaGreatDoor.By Go.Proofs.YtpkmekdpmkfcdaaGreatDoor.En Go.Proofs.YtpkmekdpmkfcdaaGreatDoor.Pl

/-- the loop of parts at k: what is cut, what is begun -/
def Cut (s : UInt8) (t : List UInt8) (k a : Nat) (done : List (List UInt8)) : Prop :=
  (k ≤ t.length → a ≤ k ∧ split s t = done ++ spl s ((t.take k).drop a) (t.drop k)) ∧ (k = t.length + 1 → split s t = done) ∧ done.length ≤ k
theorem Cut.start (s : UInt8) (t : List UInt8) : Cut s t 0 0 [] := ⟨fun _ => ⟨Nat.le_refl _, by simp [spl_nil]⟩, fun h => by omega, Nat.le_refl _⟩
theorem Cut.last {s : UInt8} {t : List UInt8} {k a : Nat} {done : List (List UInt8)} (h : Cut s t k a done) (hk : k = t.length) : Cut s t (k + 1) (k + 1) (done ++ [(t.take k).drop a]) := by
  obtain ⟨h1, -, h3⟩ := h
  refine ⟨fun h => by omega, fun _ => ?_, by simp; omega⟩
  obtain ⟨-, e⟩ := h1 (by omega)
  have hd : t.drop k = [] := List.drop_of_length_le (by omega)
  rw [e, hd, spl]
theorem Cut.cut {s : UInt8} {t : List UInt8} {k a : Nat} {done : List (List UInt8)} (h : Cut s t k a done) (hk : k < t.length) (he : t[k] = s) : Cut s t (k + 1) (k + 1) (done ++ [(t.take k).drop a]) := by
  obtain ⟨h1, -, h3⟩ := h
  refine ⟨fun _ => ⟨Nat.le_refl _, ?_⟩, fun h => by omega, by simp; omega⟩
  obtain ⟨-, e⟩ := h1 (by omega)
  rw [e, List.drop_eq_getElem_cons hk, spl, if_pos he, mid_none]
  simp
theorem Cut.on {s : UInt8} {t : List UInt8} {k a : Nat} {done : List (List UInt8)} (h : Cut s t k a done) (hk : k < t.length) (he : t[k] ≠ s) : Cut s t (k + 1) a done := by
  obtain ⟨h1, -, h3⟩ := h
  refine ⟨fun _ => ?_, fun h => by omega, by omega⟩
  obtain ⟨ha, e⟩ := h1 (by omega)
  exact ⟨by omega, by rw [e, List.drop_eq_getElem_cons hk, spl, if_neg he, mid_step hk ha]⟩
theorem Cut.le {s : UInt8} {t : List UInt8} {k a : Nat} {done : List (List UInt8)} (h : Cut s t k a done) (hk : k ≤ t.length) : a ≤ k := (h.1 hk).1

set_option maxRecDepth 20000 in
set_option maxHeartbeats 2000000 in
theorem rparts_any (t : List UInt8) (c : UInt8) (ht : t.length ≤ 1000) (w : World) :
    Calls Tryz.prog 230 #[.string ⟨t.toArray⟩, .int .u8 (c.toNat : Int)] w fun e w' => ∃ v, e = .returned v ∧ w'.ownsRow w.heap.size 9 1 v (split c t).length ((split c t).map strc) ∧ Below w.heap.size w w' := by
  obtain ⟨i0, hi0, hz0, hz1, hz2⟩ := info_parts Tryz.infoS
  have hsz : (⟨t.toArray⟩ : ByteArray).size = t.length := rfl
  have hex := ext_mid t
  obtain ⟨s, hs⟩ : ∃ s : ByteArray, s = ⟨t.toArray⟩ := ⟨_, rfl⟩
  have hat : ∀ (k : Nat) (h1 : k < s.size) (h2 : k < t.length), s[k] = t[k] := by subst hs; intro k h1 h2; rfl
  rw [← hs] at hsz hex ⊢
  have HAT := Lib.hid hat
  have HSZ := Lib.hid hsz
  have HEX := Lib.hid hex
  have hs1 : s.size ≤ 1000 := by omega
  obtain ⟨x, hx⟩ : ∃ x : Int, (c.toNat : Int) = x := ⟨_, rfl⟩
  rw [hx]
  have HX := Lib.hid hx
  clear hat hs hsz hex hx
  go_enter Tryz.func230, Tryz.ntmps230
  go_wp2
  go_loopw [5, 6, 7] (fun v a i wr => ∃ (k p : Nat) (done : List (List UInt8)), k ≤ s.size + 1 ∧ p ≤ k ∧ i = .int .i64 (k : Int) ∧ a = .int .i64 (p : Int) ∧ Hid (Cut c t k p done) ∧ wr.ownsRow w.heap.size 9 1 v done.length (done.map strc) ∧ Below w.heap.size w wr) (fun _ _ i _ => s.size + 1 - (intOf i).toNat)
  case atStart => exact ⟨0, 0, [], Nat.zero_le _, Nat.le_refl _, rfl, rfl, Lib.hid (Cut.start c t), World.ownsRow_nil _ _ _ _, Below.refl _ _⟩
  case round =>
    obtain ⟨k, p, done, hk, hp, rfl, rfl, HC, hown, hbk⟩ := hrel
    have hd : done.length ≤ k := HC.out.2.2
    by_cases hend : k = s.size + 1
    · have i1 : ¬ (k : Int) ≤ (s.size : Int) := by omega
      have E := Lib.hid (HC.out.2.1 (by rw [hend, HSZ.out]))
      clear hend
      go_wp2
      go_ret
      exact ⟨_, rfl, by rw [E.out]; exact hown, hbk⟩
    · have hks : k ≤ s.size := by omega
      have i1 : (k : Int) ≤ (s.size : Int) := by omega
      by_cases hl : k = s.size
      · have i2 : ((k : Int) == (s.size : Int)) = true := by rw [beq_iff_eq]; omega
        have HN : Hid (Cut c t (k + 1) (k + 1) (done ++ [(t.take k).drop p])) := Lib.hid (HC.out.last (by rw [hl, HSZ.out]))
        have HV : Hid (Value.string (s.extract p k) = strc ((t.take k).drop p)) := Lib.hid (by rw [HEX.out]; rfl)
        clear hl hend
        go_wp2_with (at_builtin; refine wpList_append_own _ rfl _ _ 37 rfl w.heap.size 9 i0 (.string ⟨#[]⟩) 1 16 Tryz.underlying37 hi0 hz0 hz1 hz2 rfl (by decide) _ _ _ rfl (hown.alloc _) ⟨wr.heap.size, 0, none⟩ 1 1 [_] rfl rfl (cell_one_new _ _ _) ?c2 ?c3 ?c4 ?c5 ?_)
        case c2 => intro u hu; simp at hu; subst hu; rfl
        case c3 => unfold maxLen; omega
        case c4 => omega
        case c5 => have := hbk.size; simp; omega
        intro v' w3 hown' hgrow _
        have hbk3 := (hbk.alloc hbk.size _).grown hgrow (by have := hbk.size; simp; omega) (fun j hj => (hown.lt j hj).1)
        clear hown hgrow hbk
        go_wp2
        go_roundw
        case rel => exact ⟨k + 1, k + 1, _, by omega, Nat.le_refl _, by go_num, by go_num, HN, by rw [List.length_append, List.map_append, List.map_singleton, ← HV.out]; exact hown', hbk3⟩
        case measure => simp [intOf]; omega
      · have i2 : ((k : Int) == (s.size : Int)) = false := by rw [beq_eq_false_iff_ne]; omega
        have hlt : k < s.size := by omega
        have hkl : k < t.length := by rw [← HSZ.out]; exact hlt
        have hck : s[k]'hlt = t[k] := HAT.out k hlt hkl
        by_cases hc : t[k] = c
        · have HN : Hid (Cut c t (k + 1) (k + 1) (done ++ [(t.take k).drop p])) := Lib.hid (HC.out.cut hkl hc)
          have HV : Hid (Value.string (s.extract p k) = strc ((t.take k).drop p)) := Lib.hid (by rw [HEX.out]; rfl)
          have i3 : (((s[k]'hlt).toNat : Int) == x) = true := by rw [hck, hc, HX.out, beq_iff_eq]
          clear hl hend hc hck
          go_wp2_with (at_builtin; refine wpList_append_own _ rfl _ _ 37 rfl w.heap.size 9 i0 (.string ⟨#[]⟩) 1 16 Tryz.underlying37 hi0 hz0 hz1 hz2 rfl (by decide) _ _ _ rfl (hown.alloc _) ⟨wr.heap.size, 0, none⟩ 1 1 [_] rfl rfl (cell_one_new _ _ _) ?c2 ?c3 ?c4 ?c5 ?_)
          case c2 => intro u hu; simp at hu; subst hu; rfl
          case c3 => unfold maxLen; omega
          case c4 => omega
          case c5 => have := hbk.size; simp; omega
          intro v' w3 hown' hgrow _
          have hbk3 := (hbk.alloc hbk.size _).grown hgrow (by have := hbk.size; simp; omega) (fun j hj => (hown.lt j hj).1)
          clear hown hgrow hbk
          go_wp2
          go_roundw
          case rel => exact ⟨k + 1, k + 1, _, by omega, Nat.le_refl _, by go_num, by go_num, HN, by rw [List.length_append, List.map_append, List.map_singleton, ← HV.out]; exact hown', hbk3⟩
          case measure => simp [intOf]; omega
        · have HN : Hid (Cut c t (k + 1) p done) := Lib.hid (HC.out.on hkl hc)
          have i3 : (((s[k]'hlt).toNat : Int) == x) = false := by
            rw [hck, beq_eq_false_iff_ne, ← HX.out]
            intro e
            exact hc (UInt8.toNat_inj.1 (by omega))
          clear hl hend hc hck
          go_wp2
          go_roundw
          case rel => exact ⟨k + 1, p, done, by omega, by omega, by go_num, rfl, HN, hown, hbk⟩
          case measure => simp [intOf]; omega

end Go.Proofs.YtpkmekdpmkfcdaaGreatDoor.Pf

/- Contracts: a stamp out of its bytes, by the program and by the reference. -/
import Derived.Test.YtdpcmokemjfelaaGreatDoorStampC
import Derived.Laws.BitsAllLaws
namespace Go.Proofs.YtdpcmokemjfelaaGreatDoor.St
open Go.RowKit Go.Proofs.YtdpcmokemjfelaaGreatDoor.Wd Go.Proofs.YtdpcmokemjfelaaGreatDoor.Pl Go.Proofs.YtdpcmokemjfelaaGreatDoor.Px Go.Proofs.YtdpcmokemjfelaaGreatDoor.By

theorem or_byte (x c : Int) (h0 : 0 ≤ x) (hx : x < 72057594037927936) (hc0 : 0 ≤ c) (hc : c < 256) : bits .or .u64 (x * 256) c = x * 256 + c := by
  obtain ⟨a, rfl⟩ : ∃ a : Nat, x = a := ⟨x.toNat, by omega⟩
  obtain ⟨b, rfl⟩ : ∃ b : Nat, c = b := ⟨c.toNat, by omega⟩
  have e : ((a : Int) * 256) = ((a * 256 : Nat) : Int) := by omega
  rw [e, u64_or_nat _ _ (by omega) (by omega), nat_join 8 _ _ (by omega) (by omega)]
  omega

/-- what a list of bytes reads as: seconds, nanoseconds, error -/
def getOk (l : List UInt8) : Bool := decide (l.length = 12) && (decide (ofB (l.take 8) ≤ 9223372036854775807) && decide (ofB (l.drop 8) ≤ 999999999))
theorem getOk_iff (l : List UInt8) : getOk l = true ↔ l.length = 12 ∧ ofB (l.take 8) ≤ 9223372036854775807 ∧ ofB (l.drop 8) ≤ 999999999 := by simp [getOk]

theorem ofB_take (l : List UInt8) (k : Nat) (h : k < l.length) : ofB (l.take (k + 1)) = ofB (l.take k) * 256 + (l[k]).toNat := by
  rw [List.take_succ_eq_append_getElem h, ofB_snoc]
theorem ofB_lt_take (l : List UInt8) (k : Nat) : ofB (l.take k) < 256 ^ k := by
  have h := ofB_lt (l.take k)
  have h2 : (l.take k).length ≤ k := List.length_take_le _ _
  exact Nat.lt_of_lt_of_le h (Nat.pow_le_pow_right (by omega) h2)

/-- what has been read when k bytes are over -/
def At (l : List UInt8) (k : Nat) (X Y : Int) : Prop := X = (ofB (l.take (min k 8)) : Int) ∧ Y = (ofB ((l.drop 8).take (k - 8)) : Int)
theorem At.low {l : List UInt8} {k : Nat} {X Y : Int} (h : At l k X Y) (hk : k < 8) (hl : k < l.length) : 0 ≤ X ∧ X < 72057594037927936 ∧ At l (k + 1) (X * 256 + (l[k].toNat : Int)) Y := by
  obtain ⟨h1, h2⟩ := h
  have h3 := ofB_lt_take l k
  have h4 : 256 ^ k ≤ 256 ^ 7 := Nat.pow_le_pow_right (by omega) (by omega)
  rw [show min k 8 = k by omega] at h1
  rw [show k - 8 = 0 by omega] at h2
  refine ⟨by omega, by omega, ?_, ?_⟩
  · rw [show min (k + 1) 8 = k + 1 by omega, ofB_take l k hl, h1]; omega
  · rw [show k + 1 - 8 = 0 by omega]; exact h2
theorem At.high {l : List UInt8} {k : Nat} {X Y : Int} (h : At l k X Y) (hk : 8 ≤ k) (hk2 : k < 12) (hl : k < l.length) : 0 ≤ Y ∧ Y < 16777216 ∧ At l (k + 1) X (Y * 256 + (l[k].toNat : Int)) := by
  obtain ⟨h1, h2⟩ := h
  have h3 := ofB_lt_take (l.drop 8) (k - 8)
  have h4 : 256 ^ (k - 8) ≤ 256 ^ 3 := Nat.pow_le_pow_right (by omega) (by omega)
  rw [show min k 8 = 8 by omega] at h1
  refine ⟨by omega, by omega, ?_, ?_⟩
  · rw [show min (k + 1) 8 = 8 by omega]; exact h1
  · have := ofB_take (l.drop 8) (k - 8) (by rw [List.length_drop]; omega)
    rw [show k + 1 - 8 = k - 8 + 1 by omega, this, h2, List.getElem_drop]
    simp only [show 8 + (k - 8) = k by omega]
    omega
theorem At.all {l : List UInt8} {X Y : Int} (h : At l 12 X Y) (hl : l.length = 12) : X = (ofB (l.take 8) : Int) ∧ Y = (ofB (l.drop 8) : Int) ∧ 0 ≤ X ∧ X ≤ 18446744073709551615 ∧ 0 ≤ Y ∧ Y < 4294967296 := by
  obtain ⟨h1, h2⟩ := h
  have h3 := ofB_lt_take l 8
  have h4 := ofB_lt_take (l.drop 8) 4
  rw [show min 12 8 = 8 from rfl] at h1
  rw [show 12 - 8 = 4 from rfl] at h2
  have h5 : (l.drop 8).take 4 = l.drop 8 := List.take_of_length_le (by rw [List.length_drop]; omega)
  refine ⟨h1, by rw [h2, h5], by omega, by omega, by omega, by omega⟩

theorem get_short (l : List UInt8) (A : Option Addr) (c : Nat) (w : World) (hl : ((l.length : Int) != 12) = true) :
    Calls Tryz.prog 12 #[.slice A l.length c] w fun e w' => e = .returned (.tuple #[.agg #[.int .i64 0, .int .i64 0], .int .i64 60]) ∧ Below w.heap.size w w' := by
  go_enter Tryz.func12, Tryz.ntmps12
  go_wp2
  exact bodyPost_ret (v := .tuple #[.agg #[.int .i64 0, .int .i64 0], .int .i64 60]) (by simp [results, Tryz.results12, go_sem]) rfl
    ⟨rfl, (Below.refl _ w).alloc (Nat.le_refl _) _⟩

set_option maxHeartbeats 1000000 in
theorem get_long (l : List UInt8) (A : Option Addr) (c : Nat) (w : World) (hl : l.length = 12) (ha : Shows cel w w.heap.size A l) (R : Ending → World → Prop)
    (hR : ∀ (X Y : Int) (wr : World), At l 12 X Y → 0 ≤ X → X ≤ 18446744073709551615 → 0 ≤ Y → Y < 4294967296 → Below w.heap.size w wr →
      (X ≤ 9223372036854775807 → Y ≤ 999999999 → R (.returned (.tuple #[.agg #[.int .i64 X, .int .i64 Y], .int .i64 0])) wr) ∧
      (¬ (X ≤ 9223372036854775807 ∧ Y ≤ 999999999) → R (.returned (.tuple #[.agg #[.int .i64 0, .int .i64 0], .int .i64 60])) wr)) :
    Calls Tryz.prog 12 #[.slice A l.length c] w R := by
  obtain ⟨b, o, rfl, hb, -⟩ := ha.at_ (i := 0) (by omega)
  have e1 : ((l.length : Int) != 12) = false := by simp; omega
  have hlI : (12 : Int) ≤ (l.length : Int) := by omega
  have hlJ : (l.length : Int) ≤ 12 := by omega
  have HL := Lib.hid hl
  clear hl
  go_enter Tryz.func12, Tryz.ntmps12
  go_wp2
  go_loop [4, 5, 14] (fun s n i => ∃ (k : Nat) (X Y : Int), k ≤ l.length ∧ i = .int .i64 k ∧ s = .int .u64 X ∧ n = .int .u64 Y ∧ Hid (At l k X Y)) (fun _ _ i => l.length - (intOf i).toNat)
  case atStart => exact ⟨0, 0, 0, Nat.zero_le _, rfl, rfl, rfl, ⟨rfl, by simp [ofB, ofD]⟩⟩
  case round =>
    obtain ⟨k, X, Y, hk, rfl, rfl, rfl, HA⟩ := hrel
    by_cases hlt : k < l.length
    · obtain ⟨b', o', hbe, _, hc⟩ := ha.at_ hlt
      obtain ⟨rfl, rfl⟩ : b = b' ∧ o = o' := by injection hbe with h; injection h with h1 h2; exact ⟨h1, h2⟩
      clear hbe
      have hc1 : (w.alloc (.cells #[.int .i64 0, .int .i64 0] 47)).cell? ⟨b, o + k, none⟩ = some (cel l[k]) := by rw [World.cell?_alloc_past _ _ _ hb]; exact hc
      clear hc
      obtain ⟨x, hx⟩ : ∃ x : Int, x = (l[k].toNat : Int) := ⟨_, rfl⟩
      have hx0 : 0 ≤ x := by omega
      have hx1 : x < 256 := by have := l[k].toNat_lt; omega
      unfold cel at hc1
      rw [← hx] at hc1
      have HX := Lib.hid hx
      clear hx
      by_cases h8 : k < 8
      · obtain ⟨g0, g1, g2⟩ := HA.out.low h8 hlt
        have hor := or_byte X x g0 g1 hx0 hx1
        rw [← HX.out] at g2
        have G2 := Lib.hid g2
        clear g2
        go_wp2
        go_round
        case rel => exact ⟨k + 1, _, _, by omega, by go_num, rfl, rfl, G2⟩
        case measure => simp [intOf]; omega
      · obtain ⟨g0, g1, g2⟩ := HA.out.high (by omega) (by omega) hlt
        have hor := or_byte Y x g0 (by omega) hx0 hx1
        rw [← HX.out] at g2
        have G2 := Lib.hid g2
        clear g2
        go_wp2
        go_round
        case rel => exact ⟨k + 1, _, _, by omega, by go_num, rfl, rfl, G2⟩
        case measure => simp [intOf]; omega
    · have hk12 : k = 12 := by omega
      obtain ⟨-, -, g0, g1, g2, g3⟩ := (hk12 ▸ HA.out : At l 12 X Y).all HL.out
      have HA2 := Lib.hid (hk12 ▸ HA.out : At l 12 X Y)
      clear hk12
      by_cases hX : X ≤ 9223372036854775807
      · by_cases hY : Y ≤ 999999999
        · go_wp2
          refine bodyPost_ret (v := .tuple #[.agg #[.int .i64 X, .int .i64 Y], .int .i64 0]) (by simp [results, Tryz.results12, go_sem]) rfl ?_
          exact (hR X Y _ HA2.out g0 g1 g2 g3 ((Below.refl _ w).alloc (Nat.le_refl _) _)).1 hX hY
        · go_wp2
          refine bodyPost_ret (v := .tuple #[.agg #[.int .i64 0, .int .i64 0], .int .i64 60]) (by simp [results, Tryz.results12, go_sem]) rfl ?_
          exact (hR X Y _ HA2.out g0 g1 g2 g3 ((Below.refl _ w).alloc (Nat.le_refl _) _)).2 (by omega)
      · go_wp2
        refine bodyPost_ret (v := .tuple #[.agg #[.int .i64 0, .int .i64 0], .int .i64 60]) (by simp [results, Tryz.results12, go_sem]) rfl ?_
        exact (hR X Y _ HA2.out g0 g1 g2 g3 ((Below.refl _ w).alloc (Nat.le_refl _) _)).2 (by omega)

def getS (l : List UInt8) : Int := if getOk l = true then (ofB (l.take 8) : Int) else 0
def getN (l : List UInt8) : Int := if getOk l = true then (ofB (l.drop 8) : Int) else 0
def getE (l : List UInt8) : Int := if getOk l = true then 0 else 60

theorem get_any (l : List UInt8) (A : Option Addr) (c : Nat) (w : World) (ha : Shows cel w w.heap.size A l) :
    Calls Tryz.prog 12 #[.slice A l.length c] w fun e w' => e = .returned (.tuple #[.agg #[.int .i64 (getS l), .int .i64 (getN l)], .int .i64 (getE l)]) ∧ Below w.heap.size w w' := by
  by_cases hl : l.length = 12
  · refine get_long l A c w hl ha _ fun X Y wr hA g0 g1 g2 g3 hb => ?_
    obtain ⟨rfl, rfl, -, -, -, -⟩ := hA.all hl
    refine ⟨fun h1 h2 => ?_, fun h => ?_⟩
    · have ho : getOk l = true := (getOk_iff l).2 ⟨hl, by omega, by omega⟩
      simp only [getS, getN, getE, ho, if_true]
      exact ⟨trivial, hb⟩
    · have ho : getOk l = false := by
        rw [← Bool.not_eq_true, getOk_iff]
        rintro ⟨_, h1, h2⟩
        exact h ⟨by omega, by omega⟩
      simp only [getS, getN, getE, ho, Bool.false_eq_true, if_false]
      exact ⟨trivial, hb⟩
  · have ho : getOk l = false := by
      rw [← Bool.not_eq_true, getOk_iff]
      exact fun h => hl h.1
    simp only [getS, getN, getE, ho, Bool.false_eq_true, if_false]
    exact get_short l A c w (by simp; omega)

theorem ofB_cons_lt (l : List UInt8) (hl : 0 < l.length) (k : Nat) (hk : k < l.length) : ofB (l.take (k + 1)) < (l[0].toNat + 1) * 256 ^ k ∧ l[0].toNat * 256 ^ k ≤ ofB (l.take (k + 1)) := by
  induction k with
  | zero =>
    rw [ofB_take l 0 hl]
    simp [ofB, ofD]
  | succ k ih =>
    have h := ih (by omega)
    rw [ofB_take l (k + 1) hk, Nat.pow_succ, ← Nat.mul_assoc, ← Nat.mul_assoc]
    have := (l[k + 1]).toNat_lt
    omega

theorem first127 {l : List UInt8} (hl : l.length = 12) : (ofB (l.take 8) ≤ 9223372036854775807) ↔ (l[0]'(by omega)).toNat ≤ 127 := by
  have h := ofB_cons_lt l (by omega) 7 (by omega)
  simp only [Nat.reduceAdd] at h
  omega

theorem At.low2 {l : List UInt8} {k : Nat} {X Y : Int} (h : At l k X Y) (hk : k < 8) (hl : l.length = 12) (h0 : (l[0]'(by omega)).toNat ≤ 127) : X * 256 + ((l[k]'(by omega)).toNat : Int) ≤ 9223372036854775807 := by
  have h1 := (h.low hk (by omega)).2.2.1
  rw [show min (k + 1) 8 = k + 1 by omega] at h1
  rw [h1]
  have h2 := (ofB_cons_lt l (by omega) k (by omega)).1
  have h3 : 256 ^ k ≤ 256 ^ 7 := Nat.pow_le_pow_right (by omega) (by omega)
  have h4 := Nat.mul_le_mul (show (l[0]'(by omega)).toNat + 1 ≤ 128 by omega) h3
  have h5 : 128 * 256 ^ 7 = 9223372036854775808 := by decide
  omega

end Go.Proofs.YtdpcmokemjfelaaGreatDoor.St

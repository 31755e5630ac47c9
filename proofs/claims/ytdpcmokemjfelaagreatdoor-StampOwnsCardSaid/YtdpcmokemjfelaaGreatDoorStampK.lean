/- Contract: 'fit' of the statements on stamps; contracts whose answer is given. -/
import Derived.Test.YtdpcmokemjfelaaGreatDoorLawsB
namespace Go.Proofs.YtdpcmokemjfelaaGreatDoor.St
open Go.RowKit Go.Proofs.YtdpcmokemjfelaaGreatDoor.Wd Go.Proofs.YtdpcmokemjfelaaGreatDoor.Pl Go.Proofs.YtdpcmokemjfelaaGreatDoor.Px Go.Proofs.YtdpcmokemjfelaaGreatDoor.En Go.Proofs.YtdpcmokemjfelaaGreatDoor.By

/-- an equation that no walk takes for a rule -/
def Is {α : Type} (a b : α) : Prop := a = b
def fitS (s : Int) : Int := if s < 0 then -(s + 1) else s
def fitN (n : Int) : Int := if n.tmod 1000000000 < 0 then -(n.tmod 1000000000) else n.tmod 1000000000
theorem tmod_in (n : Int) : -1000000000 < n.tmod 1000000000 ∧ n.tmod 1000000000 < 1000000000 := by
  have h := Int.natAbs_tmod n 1000000000
  have h2 : n.natAbs % (1000000000 : Int).natAbs < 1000000000 := Nat.mod_lt _ (by decide)
  omega
theorem fitS_in (s : Int) (h1 : -9223372036854775808 ≤ s) (h2 : s ≤ 9223372036854775807) : 0 ≤ fitS s ∧ fitS s ≤ 9223372036854775807 := by
  unfold fitS; split <;> omega
theorem fitN_in (n : Int) : 0 ≤ fitN n ∧ fitN n ≤ 999999999 := by
  have := tmod_in n
  unfold fitN; split <;> omega

/-- a stamp as the statements take it -/
structure Fits (s n a b : Int) : Prop where
  s1 : -9223372036854775808 ≤ s
  s2 : s ≤ 9223372036854775807
  a : fitS s = a
  b : fitN n = b
theorem Fits.bds {s n a b : Int} (h : Fits s n a b) : 0 ≤ a ∧ a ≤ 9223372036854775807 ∧ 0 ≤ b ∧ b ≤ 999999999 := by
  obtain ⟨h1, h2, rfl, rfl⟩ := h
  have := fitS_in s h1 h2
  have := fitN_in n
  omega

theorem less_as {s n t m : Int} {v : Bool} (h : Is (lss s n t m) v) (w : World) :
    Calls Tryz.prog 16 #[.agg #[.int .i64 s, .int .i64 n], .agg #[.int .i64 t, .int .i64 m]] w fun e w' => e = .returned (.bool v) ∧ Below w.heap.size w w' := by
  obtain rfl : lss s n t m = v := h
  exact St.less_any s n t m w
theorem sam_as {s n t m : Int} {v : Bool} (h : Is (sam s n t m) v) (w : World) :
    Calls Tryz.prog 15 #[.agg #[.int .i64 s, .int .i64 n], .agg #[.int .i64 t, .int .i64 m]] w fun e w' => e = .returned (.bool v) ∧ Below w.heap.size w w' := by
  obtain rfl : sam s n t m = v := h
  exact St.same_any s n t m w
/-- the next of a valid stamp -/
structure Nx (s n p q : Int) (k : Bool) : Prop where
  s0 : 0 ≤ s
  s1 : s ≤ 9223372036854775807
  n0 : 0 ≤ n
  n1 : n ≤ 999999999
  is : (k = false ∧ s = 9223372036854775807 ∧ n = 999999999 ∧ p = 0 ∧ q = 0) ∨ (k = true ∧ s < 9223372036854775807 ∧ n = 999999999 ∧ p = s + 1 ∧ q = 0) ∨ (k = true ∧ n < 999999999 ∧ p = s ∧ q = n + 1)
theorem next_as {s n p q : Int} {k : Bool} (h : Nx s n p q k) (w : World) :
    Calls Tryz.prog 11 #[.agg #[.int .i64 s, .int .i64 n]] w fun e w' => e = .returned (.tuple #[.agg #[.int .i64 p, .int .i64 q], .bool k]) ∧ Below w.heap.size w w' := by
  obtain ⟨h1, h2, h3, h4, ⟨rfl, rfl, rfl, rfl, rfl⟩ | ⟨rfl, h, rfl, rfl, rfl⟩ | ⟨rfl, h, rfl, rfl⟩⟩ := h
  · exact next_last w
  · exact next_up s w h1 h
  · exact next_on p n w h1 h2 h3 h
theorem nx_any (s n : Int) (h0 : 0 ≤ s) (h1 : s ≤ 9223372036854775807) (h2 : 0 ≤ n) (h3 : n ≤ 999999999) : ∃ p q k, Nx s n p q k := by
  by_cases hn : n = 999999999
  · by_cases hs : s = 9223372036854775807
    · exact ⟨_, _, _, h0, h1, h2, h3, .inl ⟨rfl, hs, hn, rfl, rfl⟩⟩
    · exact ⟨_, _, _, h0, h1, h2, h3, .inr (.inl ⟨rfl, by omega, hn, rfl, rfl⟩)⟩
  · exact ⟨_, _, _, h0, h1, h2, h3, .inr (.inr ⟨rfl, by omega, rfl, rfl⟩)⟩
theorem valid_as {s n : Int} {v : Bool} (h0 : s ≤ 9223372036854775807) (h : Is (vld s n) v) (w : World) :
    Calls Tryz.prog 18 #[.agg #[.int .i64 s, .int .i64 n]] w fun e w' => e = .returned (.bool v) ∧ Below w.heap.size w w' := by
  obtain rfl : vld s n = v := h
  exact valid_any s n w h0

theorem prt_len {s n : Int} (h : vld s n = true) (hs : s ≤ 9223372036854775807) : (prt s n).length ≤ 29 := by
  have hv := (vld_iff s n).1 h
  rw [prt_of _ _ h, List.length_append, List.length_cons, padTo_len _ _ (decDigits_len_le 9 _ (by omega) (by omega))]
  have := decDigits_len_le 19 s.toNat (by omega) (by omega)
  omega
/-- what Get answers of a list -/
def Gets (l : List UInt8) (x y k : Int) : Prop := getS l = x ∧ getN l = y ∧ getE l = k
theorem get_as {l : List UInt8} {x y k : Int} (h : Gets l x y k) (A : Option Addr) (c : Nat) (w : World) (ha : Shows cel w w.heap.size A l) :
    Calls Tryz.prog 12 #[.slice A l.length c] w fun e w' => e = .returned (.tuple #[.agg #[.int .i64 x, .int .i64 y], .int .i64 k]) ∧ Below w.heap.size w w' := by
  obtain ⟨rfl, rfl, rfl⟩ := h
  exact get_any l A c w ha
theorem gets_lb {s n : Int} (h : vld s n = true) (hs : s ≤ 9223372036854775807) : Gets (lb s n) s n 0 := by
  have hv := (vld_iff s n).1 h
  have e1 : (lb s n).take 8 = be 8 s.toNat := by rw [lb_yes h]; exact List.take_left' (be_len 8 _)
  have e2 : (lb s n).drop 8 = be 4 n.toNat := by rw [lb_yes h]; exact List.drop_left' (be_len 8 _)
  have g1 : ofB ((lb s n).take 8) = s.toNat := by rw [e1, ofB_be _ _ (by omega)]
  have g2 : ofB ((lb s n).drop 8) = n.toNat := by rw [e2, ofB_be _ _ (by omega)]
  have ho : getOk (lb s n) = true := (getOk_iff _).2 ⟨lb_len h, by omega, by omega⟩
  refine ⟨?_, ?_, ?_⟩
  · unfold getS; rw [if_pos ho, g1]; omega
  · unfold getN; rw [if_pos ho, g2]; omega
  · unfold getE; rw [if_pos ho]
theorem lb_gets {l : List UInt8} (h : getOk l = true) : vld (getS l) (getN l) = true ∧ getS l ≤ 9223372036854775807 ∧ lb (getS l) (getN l) = l := by
  obtain ⟨h1, h2, h3⟩ := (getOk_iff l).1 h
  have e1 : getS l = (ofB (l.take 8) : Int) := if_pos h
  have e2 : getN l = (ofB (l.drop 8) : Int) := if_pos h
  have hv : vld (getS l) (getN l) = true := by rw [vld_iff]; omega
  refine ⟨hv, by omega, ?_⟩
  rw [lb_yes hv, e1, e2, Int.toNat_natCast, Int.toNat_natCast]
  have l1 : (l.take 8).length = 8 := by rw [List.length_take]; omega
  have l2 : (l.drop 8).length = 4 := by rw [List.length_drop]; omega
  have b1 := be_ofB (l.take 8)
  have b2 := be_ofB (l.drop 8)
  rw [l1] at b1
  rw [l2] at b2
  rw [b1, b2, List.take_append_drop]
/-- what Parse answers of a text -/
theorem parse_as {t : List UInt8} {o : Option (Int × Int)} (h : Is (prs t) o) (w : World) (ht : t.length ≤ 140737488355328) (hE : Env w) :
    Calls Tryz.prog 14 #[.string ⟨t.toArray⟩] w fun e w' => e = .returned (ofPrs o) ∧ Below w.heap.size w w' := by
  obtain rfl : prs t = o := h
  exact parse_any ⟨t.toArray⟩ w ht hE
theorem put_as {s n : Int} {l : List UInt8} (h : Is (lb s n) l) (w : World) (h0 : s ≤ 9223372036854775807) :
    Calls Tryz.prog 5 #[.agg #[.int .i64 s, .int .i64 n]] w fun e w' => ∃ A c, e = .returned (.slice A l.length c) ∧ Shows cel w' w'.heap.size A l ∧ Below w.heap.size w w' := by
  obtain rfl : lb s n = l := h
  exact put_any s n w h0
theorem print_as {s n : Int} {t : List UInt8} (h : Is (prt s n) t) (w : World) (h0 : s ≤ 9223372036854775807) (hE : Env w) :
    Calls Tryz.prog 10 #[.agg #[.int .i64 s, .int .i64 n]] w fun e w' => e = .returned (.string ⟨t.toArray⟩) ∧ Below w.heap.size w w' := by
  obtain rfl : prt s n = t := h
  exact print_any s n w h0 hE

end Go.Proofs.YtdpcmokemjfelaaGreatDoor.St

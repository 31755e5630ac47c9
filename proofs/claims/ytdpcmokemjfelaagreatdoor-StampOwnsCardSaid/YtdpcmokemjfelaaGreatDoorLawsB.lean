/- The walks of further statements on stamps. -/
import Derived.Test.YtdpcmokemjfelaaGreatDoorKnown
namespace Go.Proofs.YtdpcmokemjfelaaGreatDoor.St
open Go.RowKit Go.Proofs.YtdpcmokemjfelaaGreatDoor.Wd Go.Proofs.YtdpcmokemjfelaaGreatDoor.Pl Go.Proofs.YtdpcmokemjfelaaGreatDoor.Px Go.Proofs.YtdpcmokemjfelaaGreatDoor.En Go.Proofs.YtdpcmokemjfelaaGreatDoor.By

/-- a stamp's bytes -/
def lb (s n : Int) : List UInt8 := if vld s n = true then be 8 s.toNat ++ be 4 n.toNat else []
theorem lb_yes {s n : Int} (h : vld s n = true) : lb s n = be 8 s.toNat ++ be 4 n.toNat := by unfold lb; rw [if_pos h]
theorem lb_no {s n : Int} (h : vld s n = false) : lb s n = [] := by unfold lb; rw [if_neg (by simp [h])]
theorem lb_len {s n : Int} (h : vld s n = true) : (lb s n).length = 12 := by rw [lb_yes h, List.length_append, be_len, be_len]
theorem lb_le (s n : Int) : (lb s n).length ≤ 12 := by
  cases h : vld s n with
  | true => rw [lb_len h]; omega
  | false => rw [lb_no h]; simp

theorem own_shows {w w' : World} {v : Value} {l : List UInt8} (h : w'.ownsRow w.heap.size 5 1 v l.length (l.map cel)) : ∃ A c, v = .slice A l.length c ∧ Shows cel w' w'.heap.size A l := by
  obtain ⟨A, c, rfl⟩ := own_slice h
  exact ⟨A, c, rfl, Shows.of_own (base := w.heap.size) (e := 5) h⟩

theorem put_any (s n : Int) (w : World) (h0 : s ≤ 9223372036854775807) :
    Calls Tryz.prog 5 #[.agg #[.int .i64 s, .int .i64 n]] w fun e w' => ∃ A c, e = .returned (.slice A (lb s n).length c) ∧ Shows cel w' w'.heap.size A (lb s n) ∧ Below w.heap.size w w' := by
  cases hv : vld s n with
  | true =>
    have hx := (vld_iff s n).1 hv
    refine (put_yes s n w (by omega) h0 (by omega) (by omega)).mono ?_
    rintro e w' ⟨v, rfl, hown, hb⟩
    have hl := lb_len hv
    rw [← lb_yes hv] at hown
    rw [show (12 : Nat) = (lb s n).length from hl.symm] at hown
    obtain ⟨A, c, rfl, hs⟩ := own_shows hown
    exact ⟨A, c, rfl, hs, hb⟩
  | false =>
    refine (put_no s n w h0 hv).mono ?_
    rintro e w' ⟨rfl, hb⟩
    rw [lb_no hv]
    exact ⟨none, 0, rfl, Shows.nil, hb⟩
theorem rput_any (s n : Int) (w : World) (h0 : s ≤ 9223372036854775807) :
    Calls Tryz.prog 7 #[.agg #[.int .i64 s, .int .i64 n]] w fun e w' => ∃ A c, e = .returned (.slice A (lb s n).length c) ∧ Shows cel w' w'.heap.size A (lb s n) ∧ Below w.heap.size w w' := by
  cases hv : vld s n with
  | true =>
    have hx := (vld_iff s n).1 hv
    refine (rput_yes s n w (by omega) h0 (by omega) (by omega)).mono ?_
    rintro e w' ⟨v, rfl, hown, hb⟩
    have hl := lb_len hv
    rw [← lb_yes hv] at hown
    rw [show (12 : Nat) = (lb s n).length from hl.symm] at hown
    obtain ⟨A, c, rfl, hs⟩ := own_shows hown
    exact ⟨A, c, rfl, hs, hb⟩
  | false =>
    refine (rput_no s n w hv).mono ?_
    rintro e w' ⟨rfl, hb⟩
    rw [lb_no hv]
    exact ⟨none, 0, rfl, Shows.nil, hb⟩
theorem print_any (s n : Int) (w : World) (h0 : s ≤ 9223372036854775807) (hE : Env w) :
    Calls Tryz.prog 10 #[.agg #[.int .i64 s, .int .i64 n]] w fun e w' => e = .returned (.string ⟨(prt s n).toArray⟩) ∧ Below w.heap.size w w' := by
  cases hv : vld s n with
  | true =>
    have hx := (vld_iff s n).1 hv
    exact print_yes s n w (by omega) h0 (by omega) (by omega) hE
  | false => rw [prt_not s n hv]; exact print_no s n w h0 hv
theorem sameb_yes (l : List UInt8) (A B : Option Addr) (c d : Nat) (w : World) (hl : l.length ≤ 140737488355328) (h : Shows cel w w.heap.size A l) (h' : Shows cel w w.heap.size B l) : Calls Tryz.prog 6 #[.slice A l.length c, .slice B l.length d] w fun e w' => e = .returned (.bool true) ∧ Below w.heap.size w w' := by
  refine (By.same_any l l A B c d w hl h h').mono ?_
  rintro e w' ⟨rfl, hb⟩
  exact ⟨by simp, hb⟩
/-- what Parse answers, by its parts -/
theorem ofPrs_eq (o : Option (Int × Int)) : ∃ a b k : Int, ofPrs o = .tuple #[.agg #[.int .i64 a, .int .i64 b], .int .i64 k] := by
  cases o with
  | none => exact ⟨_, _, _, rfl⟩
  | some p => exact ⟨_, _, _, rfl⟩

end Go.Proofs.YtdpcmokemjfelaaGreatDoor.St

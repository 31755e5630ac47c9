/- Contracts: the order of two numbers, by the library and by the reference; the first that is not nought. -/
import Derived.Test.YtnodiejfhkjliaaDoorAfter
import Derived.Test.YtnodiejfhkjliaaDoorME
namespace Go.Proofs.YtnodiejfhkjliaaDoor.Pf
open Go.RowKit Go.Proofs.YtnodiejfhkjliaaDoor.Wd

/-- -1, 0, 1 -/
def cmI (a b : Int) : Int := if a < b then -1 else if b < a then 1 else 0
theorem ret_i {a b : Int} (h : a = b) : Ending.returned (.int .i64 a) = .returned (.int .i64 b) := by rw [h]
theorem isnan_int (a : Int) (w : World) : Calls Tryd.prog 84 #[.int .i64 a] w fun e w' => e = .returned (.bool false) ∧ w' = w := by
  go_enter Tryd.func84, Tryd.ntmps84
  go_wp2
  go_ret
  exact ⟨by simp, rfl⟩
theorem isnan_u64 (a : Int) (w : World) : Calls Tryd.prog 85 #[.int .u64 a] w fun e w' => e = .returned (.bool false) ∧ w' = w := by
  go_enter Tryd.func85, Tryd.ntmps85
  go_wp2
  go_ret
  exact ⟨by simp, rfl⟩
theorem cmp_int (a b : Int) (w : World) : Calls Tryd.prog 60 #[.int .i64 a, .int .i64 b] w fun e w' => e = .returned (.int .i64 (cmI a b)) ∧ w' = w := by
  go_enter Tryd.func60, Tryd.ntmps60
  go_wp2_with (go_at_call 84; refine (isnan_int _ _).mono ?_; rintro e w' ⟨rfl, rfl⟩)
  all_goals go_ret
  all_goals exact ⟨ret_i (by unfold cmI; (repeat' split) <;> first | rfl | (exfalso; omega)), rfl⟩
theorem cmp_u64 (a b : Int) (w : World) : Calls Tryd.prog 61 #[.int .u64 a, .int .u64 b] w fun e w' => e = .returned (.int .i64 (cmI a b)) ∧ w' = w := by
  go_enter Tryd.func61, Tryd.ntmps61
  go_wp2_with (go_at_call 85; refine (isnan_u64 _ _).mono ?_; rintro e w' ⟨rfl, rfl⟩)
  all_goals go_ret
  all_goals exact ⟨ret_i (by unfold cmI; (repeat' split) <;> first | rfl | (exfalso; omega)), rfl⟩
theorem ord_int (a b : Int) (w : World) : Calls Tryd.prog 62 #[.int .i64 a, .int .i64 b] w fun e w' => e = .returned (.int .i64 (cmI a b)) ∧ w' = w := by
  go_enter Tryd.func62, Tryd.ntmps62
  go_wp2
  all_goals go_ret
  all_goals exact ⟨ret_i (by unfold cmI; (repeat' split) <;> first | rfl | (exfalso; omega)), rfl⟩
theorem ord_u64 (a b : Int) (w : World) : Calls Tryd.prog 63 #[.int .u64 a, .int .u64 b] w fun e w' => e = .returned (.int .i64 (cmI a b)) ∧ w' = w := by
  go_enter Tryd.func63, Tryd.ntmps63
  go_wp2
  all_goals go_ret
  all_goals exact ⟨ret_i (by unfold cmI; (repeat' split) <;> first | rfl | (exfalso; omega)), rfl⟩

/-- the first that is not nought -/
def fnz : List Int → Int
  | [] => 0
  | x :: r => if x = 0 then fnz r else x
theorem fnz_drop {xs : List Int} {k : Nat} (hk : k < xs.length) : fnz (xs.drop k) = if xs[k] = 0 then fnz (xs.drop (k + 1)) else xs[k] := by
  rw [List.drop_eq_getElem_cons hk]; rfl

theorem or_any (xs : List Int) (B c : Nat) (w : World) (hlen : xs.length ≤ 1000) (hc : ∀ i x, xs[i]? = some x → w.cell? ⟨B, i, none⟩ = some (.int .i64 x)) :
    Calls Tryd.prog 59 #[.slice (some ⟨B, 0, none⟩) xs.length c] w fun e w' => e = .returned (.int .i64 (fnz xs)) ∧ w' = w := by
  go_enter Tryd.func59, Tryd.ntmps59
  go_wp2
  go_loop [5, 8] (fun _ i => ∃ k : Nat, k ≤ xs.length ∧ i = .int .i64 k ∧ Hid (fnz (xs.drop k) = fnz xs)) (fun _ i => xs.length - (intOf i).toNat)
  case atStart => exact ⟨0, Nat.zero_le _, rfl, Lib.hid rfl⟩
  case round =>
    obtain ⟨k, hk, rfl, HX⟩ := hrel
    by_cases hlt : k < xs.length
    · have hcell := hc k xs[k] (List.getElem?_eq_getElem hlt)
      have hd := fnz_drop hlt
      rw [HX.out] at hd
      obtain ⟨x, hx⟩ : ∃ x, xs[k] = x := ⟨_, rfl⟩
      rw [hx] at hcell hd
      have HD := Lib.hid hd
      clear hx hd hc
      have i1 : (k : Int) < (xs.length : Int) := by omega
      by_cases hz : x = 0
      · have HZ := Lib.hid hz
        have e2 : (x != 0) = false := by simp [hz]
        clear hz
        go_wp2
        go_round
        case rel => exact ⟨k + 1, by omega, by go_num, Lib.hid (by have := HD.out; rw [if_pos HZ.out] at this; exact this.symm)⟩
        case measure => simp [intOf]; omega
      · have HZ := Lib.hid hz
        have e2 : (x != 0) = true := by simp [hz]
        clear hz
        go_wp2
        go_ret
        exact ⟨ret_i (by have := HD.out; rw [if_neg HZ.out] at this; exact this.symm), rfl⟩
    · have i1 : ¬ (k : Int) < (xs.length : Int) := by omega
      go_wp2
      go_ret
      exact ⟨ret_i (by have := HX.out; rw [List.drop_of_length_le (by omega)] at this; exact this), rfl⟩

end Go.Proofs.YtnodiejfhkjliaaDoor.Pf

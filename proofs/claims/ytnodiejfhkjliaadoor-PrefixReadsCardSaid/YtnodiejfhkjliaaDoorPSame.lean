/- Contracts: SameAddr, SamePrefix, num. -/
import Derived.Test.YtnodiejfhkjliaaDoorPrefR
namespace Go.Proofs.YtnodiejfhkjliaaDoor.Pf
open Go.RowKit Go.Proofs.YtnodiejfhkjliaaDoor.Wd Go.Proofs.YtnodiejfhkjliaaDoor.Px Go.Proofs.YtnodiejfhkjliaaDoor.By Go.Proofs.YtnodiejfhkjliaaDoor.En Go.Proofs.YtnodiejfhkjliaaDoor.Pl

theorem ret_b {a b : Bool} (h : a = b) : Ending.returned (.bool a) = .returned (.bool b) := by rw [h]
def smA (f h l f' h' l' : Int) : Bool := decide (f = f') && (decide (h = h') && decide (l = l'))
theorem smA_iff (f h l f' h' l' : Int) : smA f h l f' h' l' = true ↔ f = f' ∧ h = h' ∧ l = l' := by simp [smA]
def smP (f h l b f' h' l' b' : Int) : Bool := smA f h l f' h' l' && decide (b = b')
theorem two2 (w : World) (o o' : Obj) : Below w.heap.size w ((w.alloc o).alloc o') := (one w o).alloc (by simp) o'

theorem sameaddr_any (f h l f' h' l' : Int) (w : World) :
    Calls Tryd.prog 33 #[.agg #[.int .i64 f, .int .u64 h, .int .u64 l], .agg #[.int .i64 f', .int .u64 h', .int .u64 l']] w fun e w' => e = .returned (.bool (smA f h l f' h' l')) ∧ Below w.heap.size w w' := by
  go_enter Tryd.func33, Tryd.ntmps33
  go_wp2
  all_goals go_ret
  all_goals exact ⟨ret_b (by rw [Bool.eq_iff_iff]; simp_all [smA]), two2 _ _ _⟩
theorem samepre_any (f h l b f' h' l' b' : Int) (w : World) :
    Calls Tryd.prog 34 #[.agg #[.int .i64 f, .int .u64 h, .int .u64 l, .int .i64 b], .agg #[.int .i64 f', .int .u64 h', .int .u64 l', .int .i64 b']] w fun e w' => e = .returned (.bool (smP f h l b f' h' l' b')) ∧ Below w.heap.size w w' := by
  go_enter Tryd.func34, Tryd.ntmps34
  go_wp2_with fail
  refine (sameaddr_any _ _ _ _ _ _ _).mono ?_
  rintro e w1 ⟨rfl, hb1⟩
  have c0 := keepc hb1 (b := w.heap.size) (o := 3) (v := .int .i64 b) (by go_simp)
  have c1 := keepc hb1 (b := w.heap.size + 1) (o := 3) (v := .int .i64 b') (by go_simp)
  have hb := (two2 w (.cells #[.int .i64 f, .int .u64 h, .int .u64 l, .int .i64 b] 26) (.cells #[.int .i64 f', .int .u64 h', .int .u64 l', .int .i64 b'] 26)).trans (hb1.mono (by simp; omega))
  clear hb1
  cases hx : smA f h l f' h' l' with
  | true =>
    have HX := Lib.hid hx
    clear hx
    go_wp2
    go_ret
    exact ⟨ret_b (by rw [smP, HX.out]; simp; try rfl), hb⟩
  | false =>
    have HX := Lib.hid hx
    clear hx
    go_wp2
    go_ret
    exact ⟨ret_b (by rw [smP, HX.out]; rfl), hb⟩
theorem num_any (n : Int) (w : World) : Calls Tryd.prog 35 #[.int .i64 n] w fun e w' => e = .returned (.int .i64 n) ∧ w' = w := by
  go_enter Tryd.func35, Tryd.ntmps35
  go_wp2
  go_ret
  exact ⟨rfl, rfl⟩

end Go.Proofs.YtnodiejfhkjliaaDoor.Pf

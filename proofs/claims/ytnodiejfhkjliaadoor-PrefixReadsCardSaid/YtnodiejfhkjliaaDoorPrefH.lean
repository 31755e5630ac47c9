/- Contract: a valid prefix, by the program. -/
import Derived.Test.YtnodiejfhkjliaaDoorPrefG
namespace Go.Proofs.YtnodiejfhkjliaaDoor.Pf
open Go.RowKit Go.Proofs.YtnodiejfhkjliaaDoor.Wd Go.Proofs.YtnodiejfhkjliaaDoor.Px

/-- an address's halves, cut behind its first b bits -/
def ctH (f : Int) (hi b : Nat) : Nat := if f = 6 then hi - hi % 2 ^ (64 - b) else hi
def ctL (f : Int) (lo b : Nat) : Nat := if f = 6 then lo - lo % 2 ^ (if b ≤ 64 then 64 else 128 - b) else lo - lo % 2 ^ (32 - b)
theorem cut_any (f : Int) (hi lo b : Nat) (w : World) (hh : hi < 18446744073709551616) (hl : lo < 18446744073709551616) (hv : f = 6 ∨ f = 4) (hb : b ≤ wid f) :
    Calls Tryd.prog 43 #[.agg #[.int .i64 f, .int .u64 hi, .int .u64 lo], .int .i64 b] w fun e w' => e = .returned (.agg #[.int .i64 f, .int .u64 ((ctH f hi b : Nat) : Int), .int .u64 ((ctL f lo b : Nat) : Int)]) ∧ Below w.heap.size w w' := by
  rcases hv with rfl | rfl
  · have hb2 : b ≤ 128 := hb
    by_cases h : b ≤ 64
    · rw [show ctL 6 lo b = lo - lo % 2 ^ 64 by unfold ctL; rw [if_pos rfl, if_pos h], show ctH 6 hi b = hi - hi % 2 ^ (64 - b) from rfl]
      exact cut_6 hi lo b (64 - b) 64 w hh hl (.inl ⟨h, rfl, rfl⟩)
    · rw [show ctL 6 lo b = lo - lo % 2 ^ (128 - b) by unfold ctL; rw [if_pos rfl, if_neg h], show ctH 6 hi b = hi - hi % 2 ^ 0 by unfold ctH; rw [if_pos rfl, show 64 - b = 0 by omega]]
      exact cut_6 hi lo b 0 (128 - b) w hh hl (.inr ⟨by omega, hb2, rfl, rfl⟩)
  · exact cut_4 hi lo b w hl hb
/-- what is cut is the prefix's own address just where its number has no low bits -/
theorem ct_self (f : Int) (hi lo b : Nat) (hl : lo < 18446744073709551616) (hv : vA f hi lo = true) (hb : b ≤ wid f) :
    (ctH f hi b = hi ∧ ctL f lo b = lo) ↔ num f hi lo % 2 ^ (wid f - b) = 0 := by
  rcases (vA_iff f hi lo).1 hv with rfl | ⟨rfl, rfl, -⟩
  · have hb2 : b ≤ 128 := hb
    rw [show wid 6 = 128 from rfl]
    by_cases h : b ≤ 64
    · rw [zero6_low h hl, show ctL 6 lo b = lo - lo % 2 ^ 64 by unfold ctL; rw [if_pos rfl, if_pos h], show ctH 6 hi b = hi - hi % 2 ^ (64 - b) from rfl, cut_self, cut_self, Nat.mod_eq_of_lt (show lo < 2 ^ 64 from hl)]
      exact and_comm
    · rw [zero6_high (by omega) hb2, show ctL 6 lo b = lo - lo % 2 ^ (128 - b) by unfold ctL; rw [if_pos rfl, if_neg h], show ctH 6 hi b = hi - hi % 2 ^ 0 by unfold ctH; rw [if_pos rfl, show 64 - b = 0 by omega], cut_self, cut_self]
      simp [Nat.mod_one]
  · rw [show ctH 4 0 b = 0 from rfl, show ctL 4 lo b = lo - lo % 2 ^ (32 - b) from rfl, cut_self, show wid 4 = 32 from rfl, show num 4 0 lo = lo from rfl]
    simp

end Go.Proofs.YtnodiejfhkjliaaDoor.Pf

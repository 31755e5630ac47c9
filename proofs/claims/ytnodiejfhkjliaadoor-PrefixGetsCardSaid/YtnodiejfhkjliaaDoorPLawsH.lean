/- The walks of statements on prefixes. -/
import Derived.Test.YtnodiejfhkjliaaDoorPLawsG
import Derived.Test.YtnodiejfhkjliaaDoorRGet
namespace Go.Proofs.YtnodiejfhkjliaaDoor.Pf
open Go.RowKit Go.Proofs.YtnodiejfhkjliaaDoor.Wd Go.Proofs.YtnodiejfhkjliaaDoor.Px Go.Proofs.YtnodiejfhkjliaaDoor.By Go.Proofs.YtnodiejfhkjliaaDoor.En Go.Proofs.YtnodiejfhkjliaaDoor.Pl

theorem ofG_form (o : Option (Int × Nat × Nat × Int × Nat)) : ∃ (f x y b n e : Int), ofG o = .tuple #[.agg #[.int .i64 f, .int .u64 x, .int .u64 y, .int .i64 b], .int .i64 n, .int .i64 e] := by
  cases o with
  | none => exact ⟨_, _, _, _, _, _, rfl⟩
  | some p => exact ⟨_, _, _, _, _, _, rfl⟩
theorem bytes_c (l : List UInt8) (A : Option Addr) (c : Nat) (w : World) (hl : l.length ≤ 140737488355328) (ha : Shows cel w w.heap.size A l) :
    Calls Tryd.prog 40 #[.slice A l.length c] w fun e w' => ∃ B k, e = .returned (.slice B l.length k) ∧ l.length ≤ k ∧ Shows cel w' w'.heap.size B l ∧ Below w.heap.size w w' := by
  refine (bytes_any l A c w hl ha).mono ?_
  rintro e w' ⟨v, rfl, hown, hb⟩
  obtain ⟨B, k, rfl⟩ := own_slice hown
  exact ⟨B, k, rfl, (own_cap hown).1, own_shows hown, hb⟩

set_option maxRecDepth 20000 in
set_option maxHeartbeats 4000000 in
theorem prefixGets_in (l : List UInt8) (A : Option Addr) (c : Nat) (w : World) (hE : Env w) (hl : l.length ≤ 140737488355328) (hc : l.length ≤ c) (hs : Shows cel w w.heap.size A l) (f x y b n e : Int) (HG : Hid (ofG (gtP l) = .tuple #[.agg #[.int .i64 f, .int .u64 x, .int .u64 y, .int .i64 b], .int .i64 n, .int .i64 e])) :
    Calls Tryd.prog 11 #[.slice A l.length c] w fun e w' => e = .returned (.bool true) ∧ Below w.heap.size w w' := by
  go_enter Tryd.func11, Tryd.ntmps11
  go_wp2_with fail
  refine (bytes_c l A c _ hl hs).mono ?_
  rintro e w1 ⟨B1, k1, rfl, hk1, s1, hb1⟩
  have bo1 := hb1
  have hs_1 := hs.on bo1
  have bl1 : Below w.heap.size w w1 := hb1
  clear hs hb1 bo1
  go_wp2_with fail
  refine (val_as HG (get_any l B1 k1 _ hk1 s1)).mono ?_
  rintro e w2 ⟨rfl, hb2⟩
  have bo2 := hb2
  have hs_2 := hs_1.on bo2
  have s1_2 := s1.on bo2
  have bl2 : Below w.heap.size w w2 := bl1.trans (bo2.mono bl1.size)
  clear hs_1 s1 bl1 hb2 bo2
  go_wp2_with fail
  refine (val_as HG (rget_any l A c _ hc (Shows.on hs_2 ((Below.refl _ _).alloc (Nat.le_refl _) _)))).mono ?_
  rintro e w3 ⟨rfl, hb3⟩
  have bo3 : Below w2.heap.size w2 w3 := ((Below.refl _ w2).alloc (Nat.le_refl _) _).trans (hb3.mono (by simp <;> omega))
  have hs_3 := hs_2.on bo3
  have c1_0 := keepc hb3 (b := w2.heap.size) (o := 0) (v := .int .i64 f) (by go_simp)
  have c1_1 := keepc hb3 (b := w2.heap.size) (o := 1) (v := .int .u64 x) (by go_simp)
  have c1_2 := keepc hb3 (b := w2.heap.size) (o := 2) (v := .int .u64 y) (by go_simp)
  have c1_3 := keepc hb3 (b := w2.heap.size) (o := 3) (v := .int .i64 b) (by go_simp)
  have l1 : w2.heap.size < w3.heap.size := by
    have := hb3.size
    try simp at this
    omega
  have bl3 : Below w.heap.size w w3 := bl2.trans (bo3.mono bl2.size)
  clear hs_2 bl2 hb3 bo3
  go_wp2_with fail
  refine (samepre_yes f x y b _).mono ?_
  rintro e w4 ⟨rfl, hb4⟩
  have bo4 : Below w3.heap.size w3 w4 := ((Below.refl _ w3).alloc (Nat.le_refl _) _).trans (hb4.mono (by simp <;> omega))
  have c1_0_4 := keepc bo4 c1_0
  have c1_1_4 := keepc bo4 c1_1
  have c1_2_4 := keepc bo4 c1_2
  have c1_3_4 := keepc bo4 c1_3
  have l1_4 := Nat.lt_of_lt_of_le l1 bo4.size
  have c2_0 := keepc hb4 (b := w3.heap.size) (o := 0) (v := .int .i64 f) (by go_simp)
  have c2_1 := keepc hb4 (b := w3.heap.size) (o := 1) (v := .int .u64 x) (by go_simp)
  have c2_2 := keepc hb4 (b := w3.heap.size) (o := 2) (v := .int .u64 y) (by go_simp)
  have c2_3 := keepc hb4 (b := w3.heap.size) (o := 3) (v := .int .i64 b) (by go_simp)
  have l2 : w3.heap.size < w4.heap.size := by
    have := hb4.size
    try simp at this
    omega
  have bl4 : Below w.heap.size w w4 := bl3.trans (bo4.mono bl3.size)
  clear c1_0 c1_1 c1_2 c1_3 l1 bl3 hb4 bo4
  go_wp2_with fail
  refine (num_b e _).mono ?_
  rintro e w5 ⟨rfl, hb5⟩
  have bo5 := hb5
  have c1_0_5 := keepc bo5 c1_0_4
  have c1_1_5 := keepc bo5 c1_1_4
  have c1_2_5 := keepc bo5 c1_2_4
  have c1_3_5 := keepc bo5 c1_3_4
  have l1_5 := Nat.lt_of_lt_of_le l1_4 bo5.size
  have c2_0_5 := keepc bo5 c2_0
  have c2_1_5 := keepc bo5 c2_1
  have c2_2_5 := keepc bo5 c2_2
  have c2_3_5 := keepc bo5 c2_3
  have l2_5 := Nat.lt_of_lt_of_le l2 bo5.size
  have bl5 : Below w.heap.size w w5 := bl4.trans (bo5.mono bl4.size)
  clear c1_0_4 c1_1_4 c1_2_4 c1_3_4 l1_4 c2_0 c2_1 c2_2 c2_3 l2 bl4 hb5 bo5
  have E5 := hE.on (bl5)
  go_wp2_with fail
  refine (first_any _ E5).mono ?_
  rintro e w6 ⟨rfl, hb6⟩
  have bo6 := hb6
  have c1_0_6 := keepc bo6 c1_0_5
  have c1_1_6 := keepc bo6 c1_1_5
  have c1_2_6 := keepc bo6 c1_2_5
  have c1_3_6 := keepc bo6 c1_3_5
  have l1_6 := Nat.lt_of_lt_of_le l1_5 bo6.size
  have c2_0_6 := keepc bo6 c2_0_5
  have c2_1_6 := keepc bo6 c2_1_5
  have c2_2_6 := keepc bo6 c2_2_5
  have c2_3_6 := keepc bo6 c2_3_5
  have l2_6 := Nat.lt_of_lt_of_le l2_5 bo6.size
  have bl6 : Below w.heap.size w w6 := bl5.trans (bo6.mono bl5.size)
  clear c1_0_5 c1_1_5 c1_2_5 c1_3_5 l1_5 c2_0_5 c2_1_5 c2_2_5 c2_3_5 l2_5 bl5 hb6 bo6 E5
  go_wp2
  go_ret
  exact ⟨rfl, bl6⟩

theorem prefixGets_law (l : List UInt8) (A : Option Addr) (c : Nat) (w : World) (hE : Env w) (hl : l.length ≤ 140737488355328) (hc : l.length ≤ c) (hs : Shows cel w w.heap.size A l) :
    Calls Tryd.prog 11 #[.slice A l.length c] w fun e w' => e = .returned (.bool true) ∧ Below w.heap.size w w' := by
  obtain ⟨f, x, y, b, n, e, h⟩ := ofG_form (gtP l)
  exact prefixGets_in l A c w hE hl hc hs f x y b n e (Lib.hid h)

end Go.Proofs.YtnodiejfhkjliaaDoor.Pf

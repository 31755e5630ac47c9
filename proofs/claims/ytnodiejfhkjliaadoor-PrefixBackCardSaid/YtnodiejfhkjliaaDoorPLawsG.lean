/- The walks of statements on prefixes. -/
import Derived.Test.YtnodiejfhkjliaaDoorPLawsA
import Derived.Test.YtnodiejfhkjliaaDoorRPars
namespace Go.Proofs.YtnodiejfhkjliaaDoor.Pf
open Go.RowKit Go.Proofs.YtnodiejfhkjliaaDoor.Wd Go.Proofs.YtnodiejfhkjliaaDoor.Px Go.Proofs.YtnodiejfhkjliaaDoor.By Go.Proofs.YtnodiejfhkjliaaDoor.En Go.Proofs.YtnodiejfhkjliaaDoor.Pl

theorem val_as {f : FuncId} {args : Array Value} {w : World} {x X : Value} (h : Hid (x = X)) (hc : Calls Tryd.prog f args w fun e w' => e = .returned x ∧ Below w.heap.size w w') :
    Calls Tryd.prog f args w fun e w' => e = .returned X ∧ Below w.heap.size w w' := by
  rw [← h.out]; exact hc
theorem num_b (n : Int) (w : World) : Calls Tryd.prog 35 #[.int .i64 n] w fun e w' => e = .returned (.int .i64 n) ∧ Below w.heap.size w w' :=
  (num_any n w).mono fun _ _ ⟨h, hw⟩ => ⟨h, by rw [hw]; exact Below.refl _ _⟩
theorem sameaddr_yes (f h l : Int) (w : World) :
    Calls Tryd.prog 33 #[.agg #[.int .i64 f, .int .u64 h, .int .u64 l], .agg #[.int .i64 f, .int .u64 h, .int .u64 l]] w fun e w' => e = .returned (.bool true) ∧ Below w.heap.size w w' := by
  have := sameaddr_any f h l f h l w
  rwa [(smA_iff f h l f h l).2 ⟨rfl, rfl, rfl⟩] at this
theorem samepre_yes (f h l b : Int) (w : World) :
    Calls Tryd.prog 34 #[.agg #[.int .i64 f, .int .u64 h, .int .u64 l, .int .i64 b], .agg #[.int .i64 f, .int .u64 h, .int .u64 l, .int .i64 b]] w fun e w' => e = .returned (.bool true) ∧ Below w.heap.size w w' := by
  have := samepre_any f h l b f h l b w
  have e : smP f h l b f h l b = true := by unfold smP; rw [(smA_iff f h l f h l).2 ⟨rfl, rfl, rfl⟩]; simp
  rwa [e] at this
theorem ofA_form (o : Option (Int × Nat)) : ∃ (f h l e : Int), ofA o = .tuple #[.agg #[.int .i64 f, .int .u64 h, .int .u64 l], .int .i64 e] := by
  cases o with
  | none => exact ⟨_, _, _, _, rfl⟩
  | some p => exact ⟨_, _, _, _, rfl⟩
theorem ofP_form (o : Option (Int × Nat × Int)) : ∃ (f h l b e : Int), ofP o = .tuple #[.agg #[.int .i64 f, .int .u64 h, .int .u64 l, .int .i64 b], .int .i64 e] := by
  cases o with
  | none => exact ⟨_, _, _, _, _, rfl⟩
  | some p => exact ⟨_, _, _, _, _, rfl⟩

set_option maxRecDepth 20000 in
set_option maxHeartbeats 4000000 in
theorem prefixReads_in (t : List UInt8) (ht : t.length ≤ 140737488355328) (w : World) (hE : Env w) (f x y e f2 x2 y2 b2 e2 : Int) (HA : Hid (ofA (prsA t) = .tuple #[.agg #[.int .i64 f, .int .u64 x, .int .u64 y], .int .i64 e])) (HP : Hid (ofP (prsP t) = .tuple #[.agg #[.int .i64 f2, .int .u64 x2, .int .u64 y2, .int .i64 b2], .int .i64 e2])) :
    Calls Tryd.prog 7 #[.string ⟨t.toArray⟩] w fun e w' => e = .returned (.bool true) ∧ Below w.heap.size w w' := by
  go_enter Tryd.func7, Tryd.ntmps7
  have E0 := hE.on (Below.refl _ w)
  go_wp2_with fail
  refine (val_as HA (parseaddr_any t ht _ E0)).mono ?_
  rintro e w1 ⟨rfl, hb1⟩
  have bo1 := hb1
  have bl1 : Below w.heap.size w w1 := hb1
  clear hb1 bo1 E0
  have E1 := hE.on ((bl1).alloc (by exact bl1.size) (.cells #[.int .i64 f, .int .u64 x, .int .u64 y] 24))
  go_wp2_with fail
  refine (val_as HA (rparseaddr_any t ht _ E1)).mono ?_
  rintro e w2 ⟨rfl, hb2⟩
  have bo2 : Below w1.heap.size w1 w2 := ((Below.refl _ w1).alloc (Nat.le_refl _) _).trans (hb2.mono (by simp <;> omega))
  have c1_0 := keepc hb2 (b := w1.heap.size) (o := 0) (v := .int .i64 f) (by go_simp)
  have c1_1 := keepc hb2 (b := w1.heap.size) (o := 1) (v := .int .u64 x) (by go_simp)
  have c1_2 := keepc hb2 (b := w1.heap.size) (o := 2) (v := .int .u64 y) (by go_simp)
  have l1 : w1.heap.size < w2.heap.size := by
    have := hb2.size
    try simp at this
    omega
  have bl2 : Below w.heap.size w w2 := bl1.trans (bo2.mono bl1.size)
  clear bl1 hb2 bo2 E1
  have E2 := hE.on ((bl2).alloc (by exact bl2.size) (.cells #[.int .i64 f, .int .u64 x, .int .u64 y] 24))
  go_wp2_with fail
  refine (val_as HP (parse_any t ht _ E2)).mono ?_
  rintro e w3 ⟨rfl, hb3⟩
  have bo3 : Below w2.heap.size w2 w3 := ((Below.refl _ w2).alloc (Nat.le_refl _) _).trans (hb3.mono (by simp <;> omega))
  have c1_0_3 := keepc bo3 c1_0
  have c1_1_3 := keepc bo3 c1_1
  have c1_2_3 := keepc bo3 c1_2
  have l1_3 := Nat.lt_of_lt_of_le l1 bo3.size
  have c2_0 := keepc hb3 (b := w2.heap.size) (o := 0) (v := .int .i64 f) (by go_simp)
  have c2_1 := keepc hb3 (b := w2.heap.size) (o := 1) (v := .int .u64 x) (by go_simp)
  have c2_2 := keepc hb3 (b := w2.heap.size) (o := 2) (v := .int .u64 y) (by go_simp)
  have l2 : w2.heap.size < w3.heap.size := by
    have := hb3.size
    try simp at this
    omega
  have bl3 : Below w.heap.size w w3 := bl2.trans (bo3.mono bl2.size)
  clear c1_0 c1_1 c1_2 l1 bl2 hb3 bo3 E2
  have E3 := hE.on ((bl3).alloc (by exact bl3.size) (.cells #[.int .i64 f2, .int .u64 x2, .int .u64 y2, .int .i64 b2] 26))
  go_wp2_with fail
  refine (val_as HP (rparse_any t ht _ E3)).mono ?_
  rintro e w4 ⟨rfl, hb4⟩
  have bo4 : Below w3.heap.size w3 w4 := ((Below.refl _ w3).alloc (Nat.le_refl _) _).trans (hb4.mono (by simp <;> omega))
  have c1_0_4 := keepc bo4 c1_0_3
  have c1_1_4 := keepc bo4 c1_1_3
  have c1_2_4 := keepc bo4 c1_2_3
  have l1_4 := Nat.lt_of_lt_of_le l1_3 bo4.size
  have c2_0_4 := keepc bo4 c2_0
  have c2_1_4 := keepc bo4 c2_1
  have c2_2_4 := keepc bo4 c2_2
  have l2_4 := Nat.lt_of_lt_of_le l2 bo4.size
  have c3_0 := keepc hb4 (b := w3.heap.size) (o := 0) (v := .int .i64 f2) (by go_simp)
  have c3_1 := keepc hb4 (b := w3.heap.size) (o := 1) (v := .int .u64 x2) (by go_simp)
  have c3_2 := keepc hb4 (b := w3.heap.size) (o := 2) (v := .int .u64 y2) (by go_simp)
  have c3_3 := keepc hb4 (b := w3.heap.size) (o := 3) (v := .int .i64 b2) (by go_simp)
  have l3 : w3.heap.size < w4.heap.size := by
    have := hb4.size
    try simp at this
    omega
  have bl4 : Below w.heap.size w w4 := bl3.trans (bo4.mono bl3.size)
  clear c1_0_3 c1_1_3 c1_2_3 l1_3 c2_0 c2_1 c2_2 l2 bl3 hb4 bo4 E3
  go_wp2_with fail
  refine (sameaddr_yes f x y _).mono ?_
  rintro e w5 ⟨rfl, hb5⟩
  have bo5 : Below w4.heap.size w4 w5 := ((Below.refl _ w4).alloc (Nat.le_refl _) _).trans (hb5.mono (by simp <;> omega))
  have c1_0_5 := keepc bo5 c1_0_4
  have c1_1_5 := keepc bo5 c1_1_4
  have c1_2_5 := keepc bo5 c1_2_4
  have l1_5 := Nat.lt_of_lt_of_le l1_4 bo5.size
  have c2_0_5 := keepc bo5 c2_0_4
  have c2_1_5 := keepc bo5 c2_1_4
  have c2_2_5 := keepc bo5 c2_2_4
  have l2_5 := Nat.lt_of_lt_of_le l2_4 bo5.size
  have c3_0_5 := keepc bo5 c3_0
  have c3_1_5 := keepc bo5 c3_1
  have c3_2_5 := keepc bo5 c3_2
  have c3_3_5 := keepc bo5 c3_3
  have l3_5 := Nat.lt_of_lt_of_le l3 bo5.size
  have c4_0 := keepc hb5 (b := w4.heap.size) (o := 0) (v := .int .i64 f2) (by go_simp)
  have c4_1 := keepc hb5 (b := w4.heap.size) (o := 1) (v := .int .u64 x2) (by go_simp)
  have c4_2 := keepc hb5 (b := w4.heap.size) (o := 2) (v := .int .u64 y2) (by go_simp)
  have c4_3 := keepc hb5 (b := w4.heap.size) (o := 3) (v := .int .i64 b2) (by go_simp)
  have l4 : w4.heap.size < w5.heap.size := by
    have := hb5.size
    try simp at this
    omega
  have bl5 : Below w.heap.size w w5 := bl4.trans (bo5.mono bl4.size)
  clear c1_0_4 c1_1_4 c1_2_4 l1_4 c2_0_4 c2_1_4 c2_2_4 l2_4 c3_0 c3_1 c3_2 c3_3 l3 bl4 hb5 bo5
  go_wp2_with fail
  refine (samepre_yes f2 x2 y2 b2 _).mono ?_
  rintro e w6 ⟨rfl, hb6⟩
  have bo6 := hb6
  have c1_0_6 := keepc bo6 c1_0_5
  have c1_1_6 := keepc bo6 c1_1_5
  have c1_2_6 := keepc bo6 c1_2_5
  have l1_6 := Nat.lt_of_lt_of_le l1_5 bo6.size
  have c2_0_6 := keepc bo6 c2_0_5
  have c2_1_6 := keepc bo6 c2_1_5
  have c2_2_6 := keepc bo6 c2_2_5
  have l2_6 := Nat.lt_of_lt_of_le l2_5 bo6.size
  have c3_0_6 := keepc bo6 c3_0_5
  have c3_1_6 := keepc bo6 c3_1_5
  have c3_2_6 := keepc bo6 c3_2_5
  have c3_3_6 := keepc bo6 c3_3_5
  have l3_6 := Nat.lt_of_lt_of_le l3_5 bo6.size
  have c4_0_6 := keepc bo6 c4_0
  have c4_1_6 := keepc bo6 c4_1
  have c4_2_6 := keepc bo6 c4_2
  have c4_3_6 := keepc bo6 c4_3
  have l4_6 := Nat.lt_of_lt_of_le l4 bo6.size
  have bl6 : Below w.heap.size w w6 := bl5.trans (bo6.mono bl5.size)
  clear c1_0_5 c1_1_5 c1_2_5 l1_5 c2_0_5 c2_1_5 c2_2_5 l2_5 c3_0_5 c3_1_5 c3_2_5 c3_3_5 l3_5 c4_0 c4_1 c4_2 c4_3 l4 bl5 hb6 bo6
  go_wp2_with fail
  refine (num_b e _).mono ?_
  rintro e w7 ⟨rfl, hb7⟩
  have bo7 := hb7
  have c1_0_7 := keepc bo7 c1_0_6
  have c1_1_7 := keepc bo7 c1_1_6
  have c1_2_7 := keepc bo7 c1_2_6
  have l1_7 := Nat.lt_of_lt_of_le l1_6 bo7.size
  have c2_0_7 := keepc bo7 c2_0_6
  have c2_1_7 := keepc bo7 c2_1_6
  have c2_2_7 := keepc bo7 c2_2_6
  have l2_7 := Nat.lt_of_lt_of_le l2_6 bo7.size
  have c3_0_7 := keepc bo7 c3_0_6
  have c3_1_7 := keepc bo7 c3_1_6
  have c3_2_7 := keepc bo7 c3_2_6
  have c3_3_7 := keepc bo7 c3_3_6
  have l3_7 := Nat.lt_of_lt_of_le l3_6 bo7.size
  have c4_0_7 := keepc bo7 c4_0_6
  have c4_1_7 := keepc bo7 c4_1_6
  have c4_2_7 := keepc bo7 c4_2_6
  have c4_3_7 := keepc bo7 c4_3_6
  have l4_7 := Nat.lt_of_lt_of_le l4_6 bo7.size
  have bl7 : Below w.heap.size w w7 := bl6.trans (bo7.mono bl6.size)
  clear c1_0_6 c1_1_6 c1_2_6 l1_6 c2_0_6 c2_1_6 c2_2_6 l2_6 c3_0_6 c3_1_6 c3_2_6 c3_3_6 l3_6 c4_0_6 c4_1_6 c4_2_6 c4_3_6 l4_6 bl6 hb7 bo7
  go_wp2_with fail
  refine (num_b e2 _).mono ?_
  rintro e w8 ⟨rfl, hb8⟩
  have bo8 := hb8
  have c1_0_8 := keepc bo8 c1_0_7
  have c1_1_8 := keepc bo8 c1_1_7
  have c1_2_8 := keepc bo8 c1_2_7
  have l1_8 := Nat.lt_of_lt_of_le l1_7 bo8.size
  have c2_0_8 := keepc bo8 c2_0_7
  have c2_1_8 := keepc bo8 c2_1_7
  have c2_2_8 := keepc bo8 c2_2_7
  have l2_8 := Nat.lt_of_lt_of_le l2_7 bo8.size
  have c3_0_8 := keepc bo8 c3_0_7
  have c3_1_8 := keepc bo8 c3_1_7
  have c3_2_8 := keepc bo8 c3_2_7
  have c3_3_8 := keepc bo8 c3_3_7
  have l3_8 := Nat.lt_of_lt_of_le l3_7 bo8.size
  have c4_0_8 := keepc bo8 c4_0_7
  have c4_1_8 := keepc bo8 c4_1_7
  have c4_2_8 := keepc bo8 c4_2_7
  have c4_3_8 := keepc bo8 c4_3_7
  have l4_8 := Nat.lt_of_lt_of_le l4_7 bo8.size
  have bl8 : Below w.heap.size w w8 := bl7.trans (bo8.mono bl7.size)
  clear c1_0_7 c1_1_7 c1_2_7 l1_7 c2_0_7 c2_1_7 c2_2_7 l2_7 c3_0_7 c3_1_7 c3_2_7 c3_3_7 l3_7 c4_0_7 c4_1_7 c4_2_7 c4_3_7 l4_7 bl7 hb8 bo8
  have E8 := hE.on (bl8)
  go_wp2_with fail
  refine (first_any _ E8).mono ?_
  rintro e w9 ⟨rfl, hb9⟩
  have bo9 := hb9
  have c1_0_9 := keepc bo9 c1_0_8
  have c1_1_9 := keepc bo9 c1_1_8
  have c1_2_9 := keepc bo9 c1_2_8
  have l1_9 := Nat.lt_of_lt_of_le l1_8 bo9.size
  have c2_0_9 := keepc bo9 c2_0_8
  have c2_1_9 := keepc bo9 c2_1_8
  have c2_2_9 := keepc bo9 c2_2_8
  have l2_9 := Nat.lt_of_lt_of_le l2_8 bo9.size
  have c3_0_9 := keepc bo9 c3_0_8
  have c3_1_9 := keepc bo9 c3_1_8
  have c3_2_9 := keepc bo9 c3_2_8
  have c3_3_9 := keepc bo9 c3_3_8
  have l3_9 := Nat.lt_of_lt_of_le l3_8 bo9.size
  have c4_0_9 := keepc bo9 c4_0_8
  have c4_1_9 := keepc bo9 c4_1_8
  have c4_2_9 := keepc bo9 c4_2_8
  have c4_3_9 := keepc bo9 c4_3_8
  have l4_9 := Nat.lt_of_lt_of_le l4_8 bo9.size
  have bl9 : Below w.heap.size w w9 := bl8.trans (bo9.mono bl8.size)
  clear c1_0_8 c1_1_8 c1_2_8 l1_8 c2_0_8 c2_1_8 c2_2_8 l2_8 c3_0_8 c3_1_8 c3_2_8 c3_3_8 l3_8 c4_0_8 c4_1_8 c4_2_8 c4_3_8 l4_8 bl8 hb9 bo9 E8
  go_wp2
  go_ret
  exact ⟨rfl, bl9⟩

theorem prefixReads_law (t : ByteArray) (ht : t.size ≤ 140737488355328) (w : World) (hE : Env w) :
    Calls Tryd.prog 7 #[.string t] w fun e w' => e = .returned (.bool true) ∧ Below w.heap.size w w' := by
  obtain ⟨l, rfl⟩ : ∃ l : List UInt8, t = ⟨l.toArray⟩ := ⟨t.data.toList, by simp⟩
  obtain ⟨f, h, l', e, hA⟩ := ofA_form (prsA l)
  obtain ⟨f2, h2, l2, b2, e2, hP⟩ := ofP_form (prsP l)
  exact prefixReads_in l ht w hE f h l' e f2 h2 l2 b2 e2 (Lib.hid hA) (Lib.hid hP)

end Go.Proofs.YtnodiejfhkjliaaDoor.Pf

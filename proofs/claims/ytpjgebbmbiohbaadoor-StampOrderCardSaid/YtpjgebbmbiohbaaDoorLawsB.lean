/- The walks of further statements on stamps. -/
import Derived.Test.YtpjgebbmbiohbaaDoorKnown
namespace Go.Proofs.YtpjgebbmbiohbaaDoor.St
open Go.RowKit Go.Proofs.YtpjgebbmbiohbaaDoor.Wd Go.Proofs.YtpjgebbmbiohbaaDoor.Pl Go.Proofs.YtpjgebbmbiohbaaDoor.Px Go.Proofs.YtpjgebbmbiohbaaDoor.En Go.Proofs.YtpjgebbmbiohbaaDoor.By

/-- a stamp's bytes -/
def lb (s n : Int) : List UInt8 := if vld s n = true then be 8 s.toNat ++ be 4 n.toNat else []
theorem lb_yes {s n : Int} (h : vld s n = true) : lb s n = be 8 s.toNat ++ be 4 n.toNat := by unfold lb; rw [if_pos h]
theorem lb_no {s n : Int} (h : vld s n = false) : lb s n = [] := by unfold lb; rw [if_neg (by simp [h])]
theorem lb_len {s n : Int} (h : vld s n = true) : (lb s n).length = 12 := by rw [lb_yes h, List.length_append, be_len, be_len]
theorem lb_le (s n : Int) : (lb s n).length ≤ 12 := by
  cases h : vld s n with
  | true => rw [lb_len h]; omega
  | false => rw [lb_no h]; simp

theorem own_shows {w w' : World} {v : Value} {l : List UInt8} (h : w'.ownsRow w.heap.size 5 1 v l.length (l.map cel)) : ∃ A c, v = .slice A l.length c ∧ Shows cel w' w'.heap.size A l := by
  obtain ⟨A, c, rfl⟩ := own_slice h
  exact ⟨A, c, rfl, Shows.of_own (base := w.heap.size) (e := 5) h⟩

theorem put_any (s n : Int) (w : World) (h0 : s ≤ 9223372036854775807) :
    Calls Tryd.prog 21 #[.agg #[.int .i64 s, .int .i64 n]] w fun e w' => ∃ A c, e = .returned (.slice A (lb s n).length c) ∧ Shows cel w' w'.heap.size A (lb s n) ∧ Below w.heap.size w w' := by
  cases hv : vld s n with
  | true =>
    have hx := (vld_iff s n).1 hv
    refine (put_yes s n w (by omega) h0 (by omega) (by omega)).mono ?_
    rintro e w' ⟨v, rfl, hown, hb⟩
    have hl := lb_len hv
    rw [← lb_yes hv] at hown
    rw [show (12 : Nat) = (lb s n).length from hl.symm] at hown
    obtain ⟨A, c, rfl, hs⟩ := own_shows hown
    exact ⟨A, c, rfl, hs, hb⟩
  | false =>
    refine (put_no s n w h0 hv).mono ?_
    rintro e w' ⟨rfl, hb⟩
    rw [lb_no hv]
    exact ⟨none, 0, rfl, Shows.nil, hb⟩
theorem rput_any (s n : Int) (w : World) (h0 : s ≤ 9223372036854775807) :
    Calls Tryd.prog 22 #[.agg #[.int .i64 s, .int .i64 n]] w fun e w' => ∃ A c, e = .returned (.slice A (lb s n).length c) ∧ Shows cel w' w'.heap.size A (lb s n) ∧ Below w.heap.size w w' := by
  cases hv : vld s n with
  | true =>
    have hx := (vld_iff s n).1 hv
    refine (rput_yes s n w (by omega) h0 (by omega) (by omega)).mono ?_
    rintro e w' ⟨v, rfl, hown, hb⟩
    have hl := lb_len hv
    rw [← lb_yes hv] at hown
    rw [show (12 : Nat) = (lb s n).length from hl.symm] at hown
    obtain ⟨A, c, rfl, hs⟩ := own_shows hown
    exact ⟨A, c, rfl, hs, hb⟩
  | false =>
    refine (rput_no s n w hv).mono ?_
    rintro e w' ⟨rfl, hb⟩
    rw [lb_no hv]
    exact ⟨none, 0, rfl, Shows.nil, hb⟩
theorem print_any (s n : Int) (w : World) (h0 : s ≤ 9223372036854775807) (hE : Env w) :
    Calls Tryd.prog 23 #[.agg #[.int .i64 s, .int .i64 n]] w fun e w' => e = .returned (.string ⟨(prt s n).toArray⟩) ∧ Below w.heap.size w w' := by
  cases hv : vld s n with
  | true =>
    have hx := (vld_iff s n).1 hv
    exact print_yes s n w (by omega) h0 (by omega) (by omega) hE
  | false => rw [prt_not s n hv]; exact print_no s n w h0 hv
theorem rprint_any (s n : Int) (w : World) (h0 : s ≤ 9223372036854775807) :
    Calls Tryd.prog 24 #[.agg #[.int .i64 s, .int .i64 n]] w fun e w' => e = .returned (.string ⟨(prt s n).toArray⟩) ∧ Below w.heap.size w w' := by
  cases hv : vld s n with
  | true =>
    have hx := (vld_iff s n).1 hv
    exact rprint_yes s n w (by omega) h0 (by omega) (by omega)
  | false => rw [prt_not s n hv]; exact rprint_no s n w hv
theorem sameb_yes (l : List UInt8) (A B : Option Addr) (c d : Nat) (w : World) (hl : l.length ≤ 140737488355328) (h : Shows cel w w.heap.size A l) (h' : Shows cel w w.heap.size B l) : Calls Tryd.prog 25 #[.slice A l.length c, .slice B l.length d] w fun e w' => e = .returned (.bool true) ∧ Below w.heap.size w w' := by
  refine (By.same_any l l A B c d w hl h h').mono ?_
  rintro e w' ⟨rfl, hb⟩
  exact ⟨by simp, hb⟩
/-- what Parse answers, by its parts -/
theorem ofPrs_eq (o : Option (Int × Int)) : ∃ a b k : Int, ofPrs o = .tuple #[.agg #[.int .i64 a, .int .i64 b], .int .i64 k] := by
  cases o with
  | none => exact ⟨_, _, _, rfl⟩
  | some p => exact ⟨_, _, _, rfl⟩

set_option maxHeartbeats 2000000 in
theorem stampPuts_law (s n : Int) (hs : s ≤ 9223372036854775807) (w : World) (hE : Env w) :
    Calls Tryd.prog 6 #[.agg #[.int .i64 s, .int .i64 n]] w fun e w' => e = .returned (.bool true) ∧ Below w.heap.size w w' := by
  go_enter Tryd.func6, Tryd.ntmps6

  have E0 := hE.on ((Below.refl _ w).alloc (by exact Nat.le_refl _) (.cells #[.int .i64 s, .int .i64 n] 23))
  go_wp2_with fail
  refine (known_any _ E0).mono ?_
  rintro e w1 ⟨rfl, hb1⟩
  have bo1 : Below w.heap.size w w1 := ((Below.refl _ w).alloc (Nat.le_refl _) _).trans (hb1.mono (by simp <;> omega))
  have c1_0 := keepc hb1 (b := w.heap.size) (o := 0) (v := .int .i64 s) (by go_simp)
  have c1_1 := keepc hb1 (b := w.heap.size) (o := 1) (v := .int .i64 n) (by go_simp)
  have l1 : w.heap.size < w1.heap.size := by
    have := hb1.size
    try simp at this
    omega
  have bl1 : Below w.heap.size w w1 := (Below.refl _ _).trans (bo1.mono (Nat.le_refl _))
  clear hb1 bo1 E0
  go_wp2_with fail
  refine (put_any s n _ hs).mono ?_
  rintro e w2 ⟨A, c, rfl, hs1, hb2⟩
  have bo2 := hb2
  have c1_0_2 := keepc bo2 c1_0
  have c1_1_2 := keepc bo2 c1_1
  have l1_2 := Nat.lt_of_lt_of_le l1 bo2.size
  have bl2 : Below w.heap.size w w2 := bl1.trans (bo2.mono bl1.size)
  clear c1_0 c1_1 l1 bl1 hb2 bo2
  go_wp2_with fail
  refine (rput_any s n _ hs).mono ?_
  rintro e w3 ⟨B, d, rfl, hs2, hb3⟩
  have bo3 := hb3
  have c1_0_3 := keepc bo3 c1_0_2
  have c1_1_3 := keepc bo3 c1_1_2
  have l1_3 := Nat.lt_of_lt_of_le l1_2 bo3.size
  have hs1_3 := hs1.on bo3
  have bl3 : Below w.heap.size w w3 := bl2.trans (bo3.mono bl2.size)
  clear c1_0_2 c1_1_2 l1_2 hs1 bl2 hb3 bo3
  have E3 := hE.on (bl3)
  go_wp2_with fail
  refine (print_any s n _ hs E3).mono ?_
  rintro e w4 ⟨rfl, hb4⟩
  have bo4 := hb4
  have c1_0_4 := keepc bo4 c1_0_3
  have c1_1_4 := keepc bo4 c1_1_3
  have l1_4 := Nat.lt_of_lt_of_le l1_3 bo4.size
  have hs1_4 := hs1_3.on bo4
  have hs2_4 := hs2.on bo4
  have bl4 : Below w.heap.size w w4 := bl3.trans (bo4.mono bl3.size)
  clear c1_0_3 c1_1_3 l1_3 hs1_3 hs2 bl3 hb4 bo4 E3
  go_wp2_with fail
  refine (rprint_any s n _ hs).mono ?_
  rintro e w5 ⟨rfl, hb5⟩
  have bo5 := hb5
  have c1_0_5 := keepc bo5 c1_0_4
  have c1_1_5 := keepc bo5 c1_1_4
  have l1_5 := Nat.lt_of_lt_of_le l1_4 bo5.size
  have hs1_5 := hs1_4.on bo5
  have hs2_5 := hs2_4.on bo5
  have bl5 : Below w.heap.size w w5 := bl4.trans (bo5.mono bl4.size)
  clear c1_0_4 c1_1_4 l1_4 hs1_4 hs2_4 bl4 hb5 bo5
  have hlb := lb_le s n
  go_wp2_with fail
  refine (sameb_yes (lb s n) _ _ _ _ _ (by omega) hs1_5 hs2_5).mono ?_
  rintro e w6 ⟨rfl, hb6⟩
  have bo6 := hb6
  have c1_0_6 := keepc bo6 c1_0_5
  have c1_1_6 := keepc bo6 c1_1_5
  have l1_6 := Nat.lt_of_lt_of_le l1_5 bo6.size
  have hs1_6 := hs1_5.on bo6
  have hs2_6 := hs2_5.on bo6
  have bl6 : Below w.heap.size w w6 := bl5.trans (bo6.mono bl5.size)
  clear c1_0_5 c1_1_5 l1_5 hs1_5 hs2_5 bl5 hb6 bo6
  go_wp2
  go_ret
  exact ⟨rfl, bl6⟩

set_option maxHeartbeats 2000000 in
theorem stampParses_law (t : ByteArray) (ht : t.size ≤ 140737488355328) (w : World) (hE : Env w) :
    Calls Tryd.prog 8 #[.string t] w fun e w' => e = .returned (.bool true) ∧ Below w.heap.size w w' := by
  go_enter Tryd.func8, Tryd.ntmps8

  have E0 := hE.on (Below.refl _ w)
  go_wp2_with fail
  refine (known_any _ E0).mono ?_
  rintro e w1 ⟨rfl, hb1⟩
  have bo1 := hb1
  have bl1 : Below w.heap.size w w1 := hb1
  clear hb1 bo1 E0
  have E1 := hE.on (bl1)
  go_wp2_with fail
  refine (parse_any t _ ht E1).mono ?_
  rintro e w2 ⟨rfl, hb2⟩
  have bo2 := hb2
  have bl2 : Below w.heap.size w w2 := bl1.trans (bo2.mono bl1.size)
  clear bl1 hb2 bo2 E1
  obtain ⟨x, y, z, hP⟩ := ofPrs_eq (prs t.data.toList)
  have HP := Lib.hid hP
  rw [hP]
  clear hP
  go_wp2_with fail
  refine (rparse_any t _ ht).mono ?_
  rintro e w3 ⟨rfl, hb3⟩
  have bo3 : Below w2.heap.size w2 w3 := ((Below.refl _ w2).alloc (Nat.le_refl _) _).trans (hb3.mono (by simp <;> omega))
  have c1_0 := keepc hb3 (b := w2.heap.size) (o := 0) (v := .int .i64 x) (by go_simp)
  have c1_1 := keepc hb3 (b := w2.heap.size) (o := 1) (v := .int .i64 y) (by go_simp)
  have l1 : w2.heap.size < w3.heap.size := by
    have := hb3.size
    try simp at this
    omega
  have bl3 : Below w.heap.size w w3 := bl2.trans (bo3.mono bl2.size)
  clear bl2 hb3 bo3
  rw [HP.out]
  go_wp2_with fail
  refine (sam_k x y _).mono ?_
  rintro e w4 ⟨rfl, hb4⟩
  have bo4 : Below w3.heap.size w3 w4 := ((Below.refl _ w3).alloc (Nat.le_refl _) _).trans (hb4.mono (by simp <;> omega))
  have c1_0_4 := keepc bo4 c1_0
  have c1_1_4 := keepc bo4 c1_1
  have l1_4 := Nat.lt_of_lt_of_le l1 bo4.size
  have c2_0 := keepc hb4 (b := w3.heap.size) (o := 0) (v := .int .i64 x) (by go_simp)
  have c2_1 := keepc hb4 (b := w3.heap.size) (o := 1) (v := .int .i64 y) (by go_simp)
  have l2 : w3.heap.size < w4.heap.size := by
    have := hb4.size
    try simp at this
    omega
  have bl4 : Below w.heap.size w w4 := bl3.trans (bo4.mono bl3.size)
  clear c1_0 c1_1 l1 bl3 hb4 bo4
  go_wp2_with (go_at_call 29; refine (num_any _ _).mono ?_; rintro e w' ⟨rfl, rfl⟩)
  go_ret
  exact ⟨rfl, bl4⟩

set_option maxHeartbeats 2000000 in
theorem stampGets_long (l : List UInt8) (A : Option Addr) (c : Nat) (w : World) (hE : Env w) (hl : 65536 < l.length) :
    Calls Tryd.prog 7 #[.slice A l.length c] w fun e w' => e = .returned (.bool true) ∧ Below w.heap.size w w' := by
  have hlI : (65536 : Int) < (l.length : Int) := by omega
  go_enter Tryd.func7, Tryd.ntmps7
  go_wp2_with fail
  refine (known_any _ hE).mono ?_
  rintro e w1 ⟨rfl, hb1⟩
  go_wp2
  go_ret
  exact ⟨rfl, hb1⟩

set_option maxHeartbeats 4000000 in
theorem stampGets_short (l : List UInt8) (A : Option Addr) (c : Nat) (w : World) (hE : Env w) (hl : l.length ≤ 65536) (ha : Shows cel w w.heap.size A l) :
    Calls Tryd.prog 7 #[.slice A l.length c] w fun e w' => e = .returned (.bool true) ∧ Below w.heap.size w w' := by
  have hlI : ¬ (65536 : Int) < (l.length : Int) := by omega
  have hlJ : (l.length : Int) ≤ 65536 := by omega
  obtain ⟨i0, hi, hz0, hz1, hz2⟩ := info_parts Tryd.infoB
  go_enter Tryd.func7, Tryd.ntmps7

  have ha0 := ha

  go_wp2_with fail
  refine (known_any _ hE).mono ?_
  rintro e w1 ⟨rfl, hb1⟩
  have bo1 := hb1
  have ha_1 := ha.on bo1
  have bl1 : Below w.heap.size w w1 := hb1
  clear ha hb1 bo1
  go_wp2_with fail
  refine (bytes_any l A c _ (by omega) ha_1).mono ?_
  rintro e w2 ⟨v, rfl, hown0, hb2⟩
  have hown := own_base hown0 bl1.size
  clear hown0
  have bo2 := hb2
  have ha_2 := ha_1.on bo2
  have bl2 : Below w.heap.size w w2 := bl1.trans (bo2.mono bl1.size)
  clear ha_1 bl1 hb2 bo2
  go_wp2_with (at_builtin; refine wpList_append_own _ rfl _ _ 29 rfl w.heap.size 5 i0 (.int .u8 0) 1 1 Tryd.underlying29 hi hz0 hz1 hz2 rfl (by decide) _ _ _ rfl (hown.alloc _) ⟨w2.heap.size, 0, none⟩ 3 3 [.int .u8 201, .int .u8 202, .int .u8 203] rfl rfl (cells_new _ _ _) ?c2 ?c3 ?c4 ?c5 ?_)
  case c2 => intro u hu; simp at hu; rcases hu with rfl | rfl | rfl <;> rfl
  case c3 => unfold maxLen; omega
  case c4 => omega
  case c5 => have := bl2.size; simp; omega
  intro v' wq hown' hgrow _
  obtain ⟨g, cap, hv', hgb, hgl⟩ := hown'.form (by omega)
  obtain rfl := hv'
  have hq : Below w.heap.size w wq := (bl2.alloc bl2.size _).grown hgrow (by have := bl2.size; simp; omega) (fun j hj => (hown.lt j hj).1)
  obtain ⟨hcap1, hcap2⟩ := own_cap hown'
  have hcap3 : l.length ≤ cap := by omega
  unfold maxLen at hcap2
  have hsh := Shows.of_head (f := cel) (l := l) hown' rfl
  have q0 := hown'.cellAt l.length (by omega)
  have q1 := hown'.cellAt (l.length + 1) (by omega)
  have q2 := hown'.cellAt (l.length + 2) (by omega)
  rw [List.getElem?_append_right (by simp)] at q0 q1 q2
  simp only [List.length_map, Nat.sub_self, Nat.add_sub_cancel_left] at q0 q1 q2
  simp only [List.getElem?_cons_zero, List.getElem?_cons_succ] at q0 q1 q2
  have hy := ha0.on hq
  have hEq := hE.on hq
  clear hown' hgrow ha_2 hown bl2  ha0
  go_wp2_with fail

  skip
  refine (get_any l _ _ _ hsh).mono ?_
  rintro e zw1 ⟨rfl, hb1⟩
  have bo1 := hb1
  have hsh_z1 := hsh.on bo1
  have hy_z1 := hy.on bo1
  have q0_z1 := keepc bo1 q0
  have q1_z1 := keepc bo1 q1
  have q2_z1 := keepc bo1 q2
  have hgl_z1 := Nat.lt_of_lt_of_le hgl bo1.size
  have zbl1 : Below w.heap.size w zw1 := hq.trans (bo1.mono hq.size)
  clear hsh hy q0 q1 q2 hgl hb1 bo1
  go_wp2_with fail
  refine (rget_any l A c _ (hy_z1.on (one _ (.cells #[.int .i64 (getS l), .int .i64 (getN l)] 23)))).mono ?_
  rintro e zw2 ⟨rfl, hb2⟩
  have bo2 : Below zw1.heap.size zw1 zw2 := ((Below.refl _ zw1).alloc (Nat.le_refl _) _).trans (hb2.mono (by simp <;> omega))
  have hsh_z2 := hsh_z1.on bo2
  have hy_z2 := hy_z1.on bo2
  have q0_z2 := keepc bo2 q0_z1
  have q1_z2 := keepc bo2 q1_z1
  have q2_z2 := keepc bo2 q2_z1
  have hgl_z2 := Nat.lt_of_lt_of_le hgl_z1 bo2.size
  have zc1_0 := keepc hb2 (b := zw1.heap.size) (o := 0) (v := .int .i64 (getS l)) (by go_simp)
  have zc1_1 := keepc hb2 (b := zw1.heap.size) (o := 1) (v := .int .i64 (getN l)) (by go_simp)
  have zl1 : zw1.heap.size < zw2.heap.size := by
    have := hb2.size
    try simp at this
    omega
  have zbl2 : Below w.heap.size w zw2 := zbl1.trans (bo2.mono zbl1.size)
  clear hsh_z1 hy_z1 q0_z1 q1_z1 q2_z1 hgl_z1 zbl1 hb2 bo2
  go_wp2_with fail
  refine (sam_k (getS l) (getN l) _).mono ?_
  rintro e zw3 ⟨rfl, hb3⟩
  have bo3 : Below zw2.heap.size zw2 zw3 := ((Below.refl _ zw2).alloc (Nat.le_refl _) _).trans (hb3.mono (by simp <;> omega))
  have hsh_z3 := hsh_z2.on bo3
  have hy_z3 := hy_z2.on bo3
  have q0_z3 := keepc bo3 q0_z2
  have q1_z3 := keepc bo3 q1_z2
  have q2_z3 := keepc bo3 q2_z2
  have hgl_z3 := Nat.lt_of_lt_of_le hgl_z2 bo3.size
  have zc1_0_z3 := keepc bo3 zc1_0
  have zc1_1_z3 := keepc bo3 zc1_1
  have zl1_z3 := Nat.lt_of_lt_of_le zl1 bo3.size
  have zc2_0 := keepc hb3 (b := zw2.heap.size) (o := 0) (v := .int .i64 (getS l)) (by go_simp)
  have zc2_1 := keepc hb3 (b := zw2.heap.size) (o := 1) (v := .int .i64 (getN l)) (by go_simp)
  have zl2 : zw2.heap.size < zw3.heap.size := by
    have := hb3.size
    try simp at this
    omega
  have zbl3 : Below w.heap.size w zw3 := zbl2.trans (bo3.mono zbl2.size)
  clear hsh_z2 hy_z2 q0_z2 q1_z2 q2_z2 hgl_z2 zc1_0 zc1_1 zl1 zbl2 hb3 bo3
  go_wp2_with fail
  refine (sameb_yes l _ _ _ _ _ (by omega) hsh_z3 hy_z3).mono ?_
  rintro e zw4 ⟨rfl, hb4⟩
  have bo4 := hb4
  have hsh_z4 := hsh_z3.on bo4
  have hy_z4 := hy_z3.on bo4
  have q0_z4 := keepc bo4 q0_z3
  have q1_z4 := keepc bo4 q1_z3
  have q2_z4 := keepc bo4 q2_z3
  have hgl_z4 := Nat.lt_of_lt_of_le hgl_z3 bo4.size
  have zc1_0_z4 := keepc bo4 zc1_0_z3
  have zc1_1_z4 := keepc bo4 zc1_1_z3
  have zl1_z4 := Nat.lt_of_lt_of_le zl1_z3 bo4.size
  have zc2_0_z4 := keepc bo4 zc2_0
  have zc2_1_z4 := keepc bo4 zc2_1
  have zl2_z4 := Nat.lt_of_lt_of_le zl2 bo4.size
  have zbl4 : Below w.heap.size w zw4 := zbl3.trans (bo4.mono zbl3.size)
  clear hsh_z3 hy_z3 q0_z3 q1_z3 q2_z3 hgl_z3 zc1_0_z3 zc1_1_z3 zl1_z3 zc2_0 zc2_1 zl2 zbl3 hb4 bo4
  go_wp2_with (go_at_call 29; refine (num_any _ _).mono ?_; rintro e w' ⟨rfl, rfl⟩)
  go_ret
  exact ⟨rfl, zbl4⟩

theorem stampGets_law (l : List UInt8) (A : Option Addr) (c : Nat) (w : World) (hE : Env w) (ha : Shows cel w w.heap.size A l) :
    Calls Tryd.prog 7 #[.slice A l.length c] w fun e w' => e = .returned (.bool true) ∧ Below w.heap.size w w' := by
  by_cases hl : l.length ≤ 65536
  · exact stampGets_short l A c w hE hl ha
  · exact stampGets_long l A c w hE (by omega)

end Go.Proofs.YtpjgebbmbiohbaaDoor.St

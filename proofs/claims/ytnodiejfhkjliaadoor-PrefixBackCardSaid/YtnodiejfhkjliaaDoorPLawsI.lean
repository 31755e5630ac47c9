/- The walks of statements on prefixes. -/
import Derived.Test.YtnodiejfhkjliaaDoorPLawsG
import Derived.Test.YtnodiejfhkjliaaDoorRd
namespace Go.Proofs.YtnodiejfhkjliaaDoor.Pf
open Go.RowKit Go.Proofs.YtnodiejfhkjliaaDoor.Wd Go.Proofs.YtnodiejfhkjliaaDoor.Px Go.Proofs.YtnodiejfhkjliaaDoor.By Go.Proofs.YtnodiejfhkjliaaDoor.En Go.Proofs.YtnodiejfhkjliaaDoor.Pl

set_option maxRecDepth 20000 in
/-- append of bytes that are read, none let in -/
theorem wpList_append_bytes {ops : Array Oper} {rest : List Oper} {o : Oper} {a : Act} {Q : Exit → Act → World → Prop} {W : World} (base B : Nat) (hgd : o.guard = none) (s x : Operand)
    (ho : o.op = .call { callee := .builtin .append, args := #[s, x], argTypes := #[31, 31] }) (v : Value) (xs ys : List UInt8) (A : Option Addr) (n m c : Nat) (hs : a.eval s = v) (hx : a.eval x = .slice A m c) (hm : ys.length = m)
    (HO : W.ownsRow base 5 1 v n (xs.map cel)) (HR : Shows cel W B A ys) (hbase : base ≤ W.heap.size) (hl : n + m ≤ 140737488355328)
    (h : ∀ v1 w1, w1.ownsRow base 5 1 v1 (n + m) ((xs ++ ys).map cel) → W.grownBy w1 v.ownBlock → wpList Tryd.prog ops Q rest (a.put o.dst v1) w1) :
    wpList Tryd.prog ops Q (o :: rest) a W := by
  obtain ⟨inf, hi0, hz0, hz1, hz2⟩ := info_parts Tryd.infoB
  have hnews : ∀ ad, A = some ad → ∀ j u, (ys.map cel)[j]? = some u → W.cell? (ad.add j) = some u := by
    rintro ad rfl j u hu
    rw [List.getElem?_map] at hu
    obtain ⟨z, hz, rfl⟩ := Option.map_eq_some_iff.1 hu
    obtain ⟨b, p, e, -, hc⟩ := HR (List.length_pos_of_mem (List.mem_of_getElem? hz))
    injection e with e
    subst e
    have e : (⟨b, p, none⟩ : Addr).add j = ⟨b, p + j, none⟩ := by unfold Addr.add; split <;> simp_all
    rw [e]
    exact hc j z hz
  cases A with
  | some ad =>
    refine wpList_append_own _ hgd s x 31 ho base 5 inf (.int .u8 0) 1 1 Tryd.underlying31 hi0 hz0 hz1 hz2 rfl (by decide) v n (xs.map cel) hs HO ad m c (ys.map cel) hx (by rw [List.length_map, hm, Nat.mul_one]) (hnews ad rfl) (cels_one ys) (by unfold maxLen; omega) (by omega) hbase ?_
    intro v1 w1 h1 h2 _
    exact h v1 w1 (by rw [List.map_append]; exact h1) h2
  | none =>
    have h0 : m = 0 := by
      rcases Nat.eq_zero_or_pos m with h0 | h0
      · exact h0
      · obtain ⟨b, p, e, -⟩ := HR (by omega)
        cases e
    subst h0
    obtain rfl : ys = [] := List.eq_nil_of_length_eq_zero hm
    have hrun : (Builtin.append_ #[31, 31] o.type #[v, .slice none 0 c]).run Tryd.prog W = .ok v W := by
      rcases HO.2 with ⟨rfl, hn0⟩ | ⟨g, cap, cur, rfl, _, _, hnc, _⟩
      · simp [Builtin.append_, run_underlying Tryd.underlying31, sizeOf, typeInfo, hi0, Builtin.lenOf, Builtin.firstCells]
      · simp [Builtin.append_, run_underlying Tryd.underlying31, sizeOf, typeInfo, hi0, Builtin.lenOf, Builtin.firstCells, hnc, storeCells]
    refine wpList_plain hgd fun K hK => ?_
    unfold Oper.wp execOp
    simp only [ho, resolve, invoke, builtin, Sem.run_bind, Sem.run_pure, Result.andThen_ok, List.map_toArray, List.map_cons, List.map_nil, hs, hx, hrun]
    exact hK _ _ (h v W (by rw [List.append_nil]; exact HO) (World.grownBy.refl W _))

theorem put_row {f : Int} {hi lo : Nat} {b : Int} {X : List UInt8} {n : Nat} (h : Hid (pB f hi lo b = X)) (hn : Hid (X.length = n)) (w : World) (hh : hi < 18446744073709551616) (hl : lo < 18446744073709551616) :
    Calls Tryd.prog 22 #[.agg #[.int .i64 f, .int .u64 hi, .int .u64 lo, .int .i64 b]] w fun e w' => ∃ A k, e = .returned (.slice A n k) ∧ Shows cel w' w'.heap.size A X ∧ Below w.heap.size w w' := by
  refine (put_any f hi lo b w hh hl).mono ?_
  rintro e w' ⟨v, rfl, hown, hb⟩
  rw [h.out, hn.out] at hown
  obtain ⟨A, k, rfl⟩ := own_slice hown
  refine ⟨A, k, rfl, ?_, hb⟩
  have hn' := hn.out
  subst hn'
  exact own_shows hown
theorem bytes_row {l : List UInt8} {n : Nat} (hn : Hid (l.length = n)) (A : Option Addr) (c : Nat) (w : World) (hl : n ≤ 140737488355328) (ha : Shows cel w w.heap.size A l) :
    Calls Tryd.prog 40 #[.slice A n c] w fun e w' => ∃ v, e = .returned v ∧ w'.ownsRow w.heap.size 5 1 v n (l.map cel) ∧ Below w.heap.size w w' := by
  have hn' := hn.out
  subst hn'
  exact bytes_any l A c w hl ha
theorem get_own {l : List UInt8} {n : Nat} {X : Value} (h : Hid (ofG (gtP l) = X)) (hn : Hid (l.length = n)) {base : Nat} {v : Value} (w : World) (hown : w.ownsRow base 5 1 v n (l.map cel)) :
    Calls Tryd.prog 39 #[v] w fun e w' => e = .returned X ∧ Below w.heap.size w w' := by
  have hn' := hn.out
  subst hn'
  obtain ⟨A, c, rfl⟩ := own_slice hown
  rw [← h.out]
  exact get_any l A c w (own_cap hown).1 (own_shows hown)
theorem same_rowp {X : List UInt8} {n : Nat} (hn : Hid (X.length = n)) (A B : Option Addr) (c d : Nat) (w : World) (hl : n ≤ 140737488355328) (ha : Shows cel w w.heap.size A X) (hb : Shows cel w w.heap.size B X) :
    Calls Tryd.prog 24 #[.slice A n c, .slice B n d] w fun e w' => e = .returned (.bool true) ∧ Below w.heap.size w w' := by
  have hn' := hn.out
  subst hn'
  have := By.same_any X X A B c d w hl ha hb
  rwa [decide_eq_true rfl] at this
theorem prsP_pT {f : Int} {hi lo : Nat} {b : Int} (hv : vP f hi lo b = true) (hh : hi < 18446744073709551616) (hl : lo < 18446744073709551616) : ofP (prsP (pT f hi lo b)) = .tuple #[.agg #[.int .i64 f, .int .u64 (hi : Int), .int .u64 (lo : Int), .int .i64 b], .int .i64 0] := by
  have hvA := ((vP_iff f hi lo b).1 hv).1
  have hN : okA f (num f hi lo) = true ∧ num f hi lo / 18446744073709551616 = hi ∧ num f hi lo % 18446744073709551616 = lo := by
    rcases (vA_iff f hi lo).1 hvA with rfl | ⟨rfl, rfl, h3⟩
    · have e : num 6 hi lo = hi * 18446744073709551616 + lo := by simp [num]
      exact ⟨(okA_iff _ _).2 (.inl ⟨rfl, num6_lt hh hl⟩), by rw [e]; omega, by rw [e]; omega⟩
    · exact ⟨(okA_iff _ _).2 (.inr ⟨rfl, h3⟩), by simp [num]; omega, by simp [num]; omega⟩
  obtain ⟨hk, h1, h2⟩ := hN
  have h3 := vP_of hk b
  have h4 := pT_of hk b
  rw [h1, h2] at h3 h4
  rw [hv] at h3
  rw [h4, prsP_prt h3.symm]
  show Value.tuple #[.agg #[.int .i64 f, .int .u64 ((num f hi lo / 18446744073709551616 : Nat) : Int), .int .u64 ((num f hi lo % 18446744073709551616 : Nat) : Int), .int .i64 b], .int .i64 0] = _
  rw [h1, h2]

set_option maxRecDepth 20000 in
set_option maxHeartbeats 4000000 in
theorem back_000 (f : Int) (hi lo : Nat) (b : Int) (hh : hi < 18446744073709551616) (hl : lo < 18446744073709551616) (l : List UInt8) (A : Option Addr) (c m : Nat) (hm : Hid (l.length = m)) (hm9 : m ≤ 140737488355000) (_hmc : m ≤ c) (t : List UInt8) (ht : t.length ≤ 140737488355328) (w : World) (hE : Env w) (hs : Shows cel w w.heap.size A l) (X : List UInt8) (n : Nat) (HX : Hid (pB f hi lo b = X)) (HN : Hid (X.length = n)) (hn0 : n = 0) (f2 x2 y2 b2 n2 e2 : Int) (he2 : e2 ≠ 0) (HG2 : Hid (ofG (gtP l) = .tuple #[.agg #[.int .i64 f2, .int .u64 x2, .int .u64 y2, .int .i64 b2], .int .i64 n2, .int .i64 e2])) (f3 x3 y3 b3 e3 : Int) (he3 : e3 ≠ 0) (HP3 : Hid (ofP (prsP t) = .tuple #[.agg #[.int .i64 f3, .int .u64 x3, .int .u64 y3, .int .i64 b3], .int .i64 e3])) :
    Calls Tryd.prog 12 #[.agg #[.int .i64 f, .int .u64 hi, .int .u64 lo, .int .i64 b], .slice A m c, .string ⟨t.toArray⟩] w fun e w' => e = .returned (.bool true) ∧ Below w.heap.size w w' := by
  have ie2 : (e2 == 0) = false := by rw [beq_eq_false_iff_ne]; exact he2
  clear he2
  have ie3 : (e3 == 0) = false := by rw [beq_eq_false_iff_ne]; exact he3
  clear he3
  subst hn0
  go_enter Tryd.func12, Tryd.ntmps12
  have E0 := hE.on ((Below.refl _ w).alloc (by exact Nat.le_refl _) (.cells #[.int .i64 f, .int .u64 hi, .int .u64 lo, .int .i64 b] 26))
  go_wp2_with fail
  refine (first_any _ E0).mono ?_
  rintro e w1 ⟨rfl, hb1⟩
  have bo1 : Below w.heap.size w w1 := ((Below.refl _ w).alloc (Nat.le_refl _) _).trans (hb1.mono (by simp <;> omega))
  have c1_0 := keepc hb1 (b := w.heap.size) (o := 0) (v := .int .i64 f) (by go_simp)
  have c1_1 := keepc hb1 (b := w.heap.size) (o := 1) (v := .int .u64 hi) (by go_simp)
  have c1_2 := keepc hb1 (b := w.heap.size) (o := 2) (v := .int .u64 lo) (by go_simp)
  have c1_3 := keepc hb1 (b := w.heap.size) (o := 3) (v := .int .i64 b) (by go_simp)
  have l1 : w.heap.size < w1.heap.size := by
    have := hb1.size
    try simp at this
    omega
  have bl1 : Below w.heap.size w w1 := (Below.refl _ _).trans (bo1.mono (Nat.le_refl _))
  clear hb1 bo1 E0
  go_wp2_with fail
  refine (put_row HX HN _ hh hl).mono ?_
  rintro e w2 ⟨A1, k1, rfl, s1, hb2⟩
  have bo2 := hb2
  have c1_0_2 := keepc bo2 c1_0
  have c1_1_2 := keepc bo2 c1_1
  have c1_2_2 := keepc bo2 c1_2
  have c1_3_2 := keepc bo2 c1_3
  have l1_2 := Nat.lt_of_lt_of_le l1 bo2.size
  have bl2 : Below w.heap.size w w2 := bl1.trans (bo2.mono bl1.size)
  clear c1_0 c1_1 c1_2 c1_3 l1 bl1 hb2 bo2
  clear c1_0_2 c1_1_2 c1_2_2 c1_3_2 l1_2
  go_wp2_with fail
  refine (bytes_row hm A c _ (by omega) (hs.on bl2)).mono ?_
  rintro e w3 ⟨v9, rfl, hown9, hb3⟩
  have bo3 := hb3
  have bl3 : Below w.heap.size w w3 := bl2.trans (bo3.mono bl2.size)
  clear bl2 hb3 bo3
  go_wp2_with fail
  refine (get_own HG2 hm _ hown9).mono ?_
  rintro e w4 ⟨rfl, hb4⟩
  have bo4 := hb4
  have hown9_4 := own_on hown9 bo4
  have bl4 : Below w.heap.size w w4 := bl3.trans (bo4.mono bl3.size)
  clear hown9 bl3 hb4 bo4
  go_wp2_with fail
  refine (num_b e2 _).mono ?_
  rintro e w5 ⟨rfl, hb5⟩
  have bo5 : Below w4.heap.size w4 w5 := ((Below.refl _ w4).alloc (Nat.le_refl _) _).trans (hb5.mono (by simp <;> omega))
  have c2_0 := keepc hb5 (b := w4.heap.size) (o := 0) (v := .int .i64 f2) (by go_simp)
  have c2_1 := keepc hb5 (b := w4.heap.size) (o := 1) (v := .int .u64 x2) (by go_simp)
  have c2_2 := keepc hb5 (b := w4.heap.size) (o := 2) (v := .int .u64 y2) (by go_simp)
  have c2_3 := keepc hb5 (b := w4.heap.size) (o := 3) (v := .int .i64 b2) (by go_simp)
  have l2 : w4.heap.size < w5.heap.size := by
    have := hb5.size
    try simp at this
    omega
  have bl5 : Below w.heap.size w w5 := bl4.trans (bo5.mono bl4.size)
  clear bl4 hb5 bo5
  clear c2_0 c2_1 c2_2 c2_3 l2
  have E5 := hE.on (bl5)
  go_wp2_with fail
  refine (val_as HP3 (parse_any t ht _ E5)).mono ?_
  rintro e w6 ⟨rfl, hb6⟩
  have bo6 := hb6
  have bl6 : Below w.heap.size w w6 := bl5.trans (bo6.mono bl5.size)
  clear bl5 hb6 bo6 E5
  go_wp2_with fail
  refine (num_b e3 _).mono ?_
  rintro e w7 ⟨rfl, hb7⟩
  have bo7 : Below w6.heap.size w6 w7 := ((Below.refl _ w6).alloc (Nat.le_refl _) _).trans (hb7.mono (by simp <;> omega))
  have c3_0 := keepc hb7 (b := w6.heap.size) (o := 0) (v := .int .i64 f3) (by go_simp)
  have c3_1 := keepc hb7 (b := w6.heap.size) (o := 1) (v := .int .u64 x3) (by go_simp)
  have c3_2 := keepc hb7 (b := w6.heap.size) (o := 2) (v := .int .u64 y3) (by go_simp)
  have c3_3 := keepc hb7 (b := w6.heap.size) (o := 3) (v := .int .i64 b3) (by go_simp)
  have l3 : w6.heap.size < w7.heap.size := by
    have := hb7.size
    try simp at this
    omega
  have bl7 : Below w.heap.size w w7 := bl6.trans (bo7.mono bl6.size)
  clear bl6 hb7 bo7
  go_wp2
  go_ret
  exact ⟨rfl, bl7⟩

set_option maxRecDepth 20000 in
set_option maxHeartbeats 4000000 in
theorem back_001 (f : Int) (hi lo : Nat) (b : Int) (hh : hi < 18446744073709551616) (hl : lo < 18446744073709551616) (l : List UInt8) (A : Option Addr) (c m : Nat) (hm : Hid (l.length = m)) (hm9 : m ≤ 140737488355000) (_hmc : m ≤ c) (t : List UInt8) (ht : t.length ≤ 140737488355328) (w : World) (hE : Env w) (hs : Shows cel w w.heap.size A l) (X : List UInt8) (n : Nat) (HX : Hid (pB f hi lo b = X)) (HN : Hid (X.length = n)) (hn0 : n = 0) (f2 x2 y2 b2 n2 e2 : Int) (he2 : e2 ≠ 0) (HG2 : Hid (ofG (gtP l) = .tuple #[.agg #[.int .i64 f2, .int .u64 x2, .int .u64 y2, .int .i64 b2], .int .i64 n2, .int .i64 e2])) (f3 : Int) (hi3 lo3 : Nat) (b3 : Int) (hh3 : hi3 < 18446744073709551616) (hl3 : lo3 < 18446744073709551616) (HP3 : Hid (ofP (prsP t) = .tuple #[.agg #[.int .i64 f3, .int .u64 (hi3 : Int), .int .u64 (lo3 : Int), .int .i64 b3], .int .i64 0])) (HT3 : Hid (pT f3 hi3 lo3 b3 = t)) :
    Calls Tryd.prog 12 #[.agg #[.int .i64 f, .int .u64 hi, .int .u64 lo, .int .i64 b], .slice A m c, .string ⟨t.toArray⟩] w fun e w' => e = .returned (.bool true) ∧ Below w.heap.size w w' := by
  have ie2 : (e2 == 0) = false := by rw [beq_eq_false_iff_ne]; exact he2
  clear he2
  subst hn0
  go_enter Tryd.func12, Tryd.ntmps12
  have E0 := hE.on ((Below.refl _ w).alloc (by exact Nat.le_refl _) (.cells #[.int .i64 f, .int .u64 hi, .int .u64 lo, .int .i64 b] 26))
  go_wp2_with fail
  refine (first_any _ E0).mono ?_
  rintro e w1 ⟨rfl, hb1⟩
  have bo1 : Below w.heap.size w w1 := ((Below.refl _ w).alloc (Nat.le_refl _) _).trans (hb1.mono (by simp <;> omega))
  have c1_0 := keepc hb1 (b := w.heap.size) (o := 0) (v := .int .i64 f) (by go_simp)
  have c1_1 := keepc hb1 (b := w.heap.size) (o := 1) (v := .int .u64 hi) (by go_simp)
  have c1_2 := keepc hb1 (b := w.heap.size) (o := 2) (v := .int .u64 lo) (by go_simp)
  have c1_3 := keepc hb1 (b := w.heap.size) (o := 3) (v := .int .i64 b) (by go_simp)
  have l1 : w.heap.size < w1.heap.size := by
    have := hb1.size
    try simp at this
    omega
  have bl1 : Below w.heap.size w w1 := (Below.refl _ _).trans (bo1.mono (Nat.le_refl _))
  clear hb1 bo1 E0
  go_wp2_with fail
  refine (put_row HX HN _ hh hl).mono ?_
  rintro e w2 ⟨A1, k1, rfl, s1, hb2⟩
  have bo2 := hb2
  have c1_0_2 := keepc bo2 c1_0
  have c1_1_2 := keepc bo2 c1_1
  have c1_2_2 := keepc bo2 c1_2
  have c1_3_2 := keepc bo2 c1_3
  have l1_2 := Nat.lt_of_lt_of_le l1 bo2.size
  have bl2 : Below w.heap.size w w2 := bl1.trans (bo2.mono bl1.size)
  clear c1_0 c1_1 c1_2 c1_3 l1 bl1 hb2 bo2
  clear c1_0_2 c1_1_2 c1_2_2 c1_3_2 l1_2
  go_wp2_with fail
  refine (bytes_row hm A c _ (by omega) (hs.on bl2)).mono ?_
  rintro e w3 ⟨v9, rfl, hown9, hb3⟩
  have bo3 := hb3
  have bl3 : Below w.heap.size w w3 := bl2.trans (bo3.mono bl2.size)
  clear bl2 hb3 bo3
  go_wp2_with fail
  refine (get_own HG2 hm _ hown9).mono ?_
  rintro e w4 ⟨rfl, hb4⟩
  have bo4 := hb4
  have hown9_4 := own_on hown9 bo4
  have bl4 : Below w.heap.size w w4 := bl3.trans (bo4.mono bl3.size)
  clear hown9 bl3 hb4 bo4
  go_wp2_with fail
  refine (num_b e2 _).mono ?_
  rintro e w5 ⟨rfl, hb5⟩
  have bo5 : Below w4.heap.size w4 w5 := ((Below.refl _ w4).alloc (Nat.le_refl _) _).trans (hb5.mono (by simp <;> omega))
  have c2_0 := keepc hb5 (b := w4.heap.size) (o := 0) (v := .int .i64 f2) (by go_simp)
  have c2_1 := keepc hb5 (b := w4.heap.size) (o := 1) (v := .int .u64 x2) (by go_simp)
  have c2_2 := keepc hb5 (b := w4.heap.size) (o := 2) (v := .int .u64 y2) (by go_simp)
  have c2_3 := keepc hb5 (b := w4.heap.size) (o := 3) (v := .int .i64 b2) (by go_simp)
  have l2 : w4.heap.size < w5.heap.size := by
    have := hb5.size
    try simp at this
    omega
  have bl5 : Below w.heap.size w w5 := bl4.trans (bo5.mono bl4.size)
  clear bl4 hb5 bo5
  clear c2_0 c2_1 c2_2 c2_3 l2
  have E5 := hE.on (bl5)
  go_wp2_with fail
  refine (val_as HP3 (parse_any t ht _ E5)).mono ?_
  rintro e w6 ⟨rfl, hb6⟩
  have bo6 := hb6
  have bl6 : Below w.heap.size w w6 := bl5.trans (bo6.mono bl5.size)
  clear bl5 hb6 bo6 E5
  go_wp2_with fail
  refine (num_b 0 _).mono ?_
  rintro e w7 ⟨rfl, hb7⟩
  have bo7 : Below w6.heap.size w6 w7 := ((Below.refl _ w6).alloc (Nat.le_refl _) _).trans (hb7.mono (by simp <;> omega))
  have c3_0 := keepc hb7 (b := w6.heap.size) (o := 0) (v := .int .i64 f3) (by go_simp)
  have c3_1 := keepc hb7 (b := w6.heap.size) (o := 1) (v := .int .u64 (hi3 : Int)) (by go_simp)
  have c3_2 := keepc hb7 (b := w6.heap.size) (o := 2) (v := .int .u64 (lo3 : Int)) (by go_simp)
  have c3_3 := keepc hb7 (b := w6.heap.size) (o := 3) (v := .int .i64 b3) (by go_simp)
  have l3 : w6.heap.size < w7.heap.size := by
    have := hb7.size
    try simp at this
    omega
  have bl7 : Below w.heap.size w w7 := bl6.trans (bo7.mono bl6.size)
  clear bl6 hb7 bo7
  have E7 := hE.on (bl7)
  go_wp2_with fail
  refine (print_as HT3 _ E7 hh3 hl3).mono ?_
  rintro e w8 ⟨rfl, hb8⟩
  have bo8 := hb8
  have c3_0_8 := keepc bo8 c3_0
  have c3_1_8 := keepc bo8 c3_1
  have c3_2_8 := keepc bo8 c3_2
  have c3_3_8 := keepc bo8 c3_3
  have l3_8 := Nat.lt_of_lt_of_le l3 bo8.size
  have bl8 : Below w.heap.size w w8 := bl7.trans (bo8.mono bl7.size)
  clear c3_0 c3_1 c3_2 c3_3 l3 bl7 hb8 bo8 E7
  go_wp2
  go_ret
  exact ⟨rfl, bl8⟩

set_option maxRecDepth 20000 in
set_option maxHeartbeats 4000000 in
theorem back_010 (f : Int) (hi lo : Nat) (b : Int) (hh : hi < 18446744073709551616) (hl : lo < 18446744073709551616) (l : List UInt8) (A : Option Addr) (c m : Nat) (hm : Hid (l.length = m)) (hm9 : m ≤ 140737488355000) (hmc : m ≤ c) (t : List UInt8) (ht : t.length ≤ 140737488355328) (w : World) (hE : Env w) (hs : Shows cel w w.heap.size A l) (X : List UInt8) (n : Nat) (HX : Hid (pB f hi lo b = X)) (HN : Hid (X.length = n)) (hn0 : n = 0) (f2 : Int) (hi2 lo2 : Nat) (b2 : Int) (n2 : Nat) (hh2 : hi2 < 18446744073709551616) (hl2 : lo2 < 18446744073709551616) (HG2 : Hid (ofG (gtP l) = .tuple #[.agg #[.int .i64 f2, .int .u64 (hi2 : Int), .int .u64 (lo2 : Int), .int .i64 b2], .int .i64 (n2 : Int), .int .i64 0])) (Y : List UInt8) (HY : Hid (pB f2 hi2 lo2 b2 = Y)) (HYN : Hid (Y.length = n2)) (hn2 : n2 ≤ m) (hn29 : n2 ≤ 18) (HYT : Hid (Y = l.take n2)) (f3 x3 y3 b3 e3 : Int) (he3 : e3 ≠ 0) (HP3 : Hid (ofP (prsP t) = .tuple #[.agg #[.int .i64 f3, .int .u64 x3, .int .u64 y3, .int .i64 b3], .int .i64 e3])) :
    Calls Tryd.prog 12 #[.agg #[.int .i64 f, .int .u64 hi, .int .u64 lo, .int .i64 b], .slice A m c, .string ⟨t.toArray⟩] w fun e w' => e = .returned (.bool true) ∧ Below w.heap.size w w' := by
  have ie3 : (e3 == 0) = false := by rw [beq_eq_false_iff_ne]; exact he3
  clear he3
  subst hn0
  go_enter Tryd.func12, Tryd.ntmps12
  have E0 := hE.on ((Below.refl _ w).alloc (by exact Nat.le_refl _) (.cells #[.int .i64 f, .int .u64 hi, .int .u64 lo, .int .i64 b] 26))
  go_wp2_with fail
  refine (first_any _ E0).mono ?_
  rintro e w1 ⟨rfl, hb1⟩
  have bo1 : Below w.heap.size w w1 := ((Below.refl _ w).alloc (Nat.le_refl _) _).trans (hb1.mono (by simp <;> omega))
  have c1_0 := keepc hb1 (b := w.heap.size) (o := 0) (v := .int .i64 f) (by go_simp)
  have c1_1 := keepc hb1 (b := w.heap.size) (o := 1) (v := .int .u64 hi) (by go_simp)
  have c1_2 := keepc hb1 (b := w.heap.size) (o := 2) (v := .int .u64 lo) (by go_simp)
  have c1_3 := keepc hb1 (b := w.heap.size) (o := 3) (v := .int .i64 b) (by go_simp)
  have l1 : w.heap.size < w1.heap.size := by
    have := hb1.size
    try simp at this
    omega
  have bl1 : Below w.heap.size w w1 := (Below.refl _ _).trans (bo1.mono (Nat.le_refl _))
  clear hb1 bo1 E0
  go_wp2_with fail
  refine (put_row HX HN _ hh hl).mono ?_
  rintro e w2 ⟨A1, k1, rfl, s1, hb2⟩
  have bo2 := hb2
  have c1_0_2 := keepc bo2 c1_0
  have c1_1_2 := keepc bo2 c1_1
  have c1_2_2 := keepc bo2 c1_2
  have c1_3_2 := keepc bo2 c1_3
  have l1_2 := Nat.lt_of_lt_of_le l1 bo2.size
  have bl2 : Below w.heap.size w w2 := bl1.trans (bo2.mono bl1.size)
  clear c1_0 c1_1 c1_2 c1_3 l1 bl1 hb2 bo2
  clear c1_0_2 c1_1_2 c1_2_2 c1_3_2 l1_2
  go_wp2_with fail
  refine (bytes_row hm A c _ (by omega) (hs.on bl2)).mono ?_
  rintro e w3 ⟨v9, rfl, hown9, hb3⟩
  have bo3 := hb3
  have bl3 : Below w.heap.size w w3 := bl2.trans (bo3.mono bl2.size)
  clear bl2 hb3 bo3
  go_wp2_with fail
  refine (get_own HG2 hm _ hown9).mono ?_
  rintro e w4 ⟨rfl, hb4⟩
  have bo4 := hb4
  have hown9_4 := own_on hown9 bo4
  have bl4 : Below w.heap.size w w4 := bl3.trans (bo4.mono bl3.size)
  clear hown9 bl3 hb4 bo4
  go_wp2_with fail
  refine (num_b 0 _).mono ?_
  rintro e w5 ⟨rfl, hb5⟩
  have bo5 : Below w4.heap.size w4 w5 := ((Below.refl _ w4).alloc (Nat.le_refl _) _).trans (hb5.mono (by simp <;> omega))
  have c2_0 := keepc hb5 (b := w4.heap.size) (o := 0) (v := .int .i64 f2) (by go_simp)
  have c2_1 := keepc hb5 (b := w4.heap.size) (o := 1) (v := .int .u64 (hi2 : Int)) (by go_simp)
  have c2_2 := keepc hb5 (b := w4.heap.size) (o := 2) (v := .int .u64 (lo2 : Int)) (by go_simp)
  have c2_3 := keepc hb5 (b := w4.heap.size) (o := 3) (v := .int .i64 b2) (by go_simp)
  have l2 : w4.heap.size < w5.heap.size := by
    have := hb5.size
    try simp at this
    omega
  have bl5 : Below w.heap.size w w5 := bl4.trans (bo5.mono bl4.size)
  clear bl4 hb5 bo5
  go_wp2_with fail
  refine (put_row HY HYN _ hh2 hl2).mono ?_
  rintro e w6 ⟨A5, k5, rfl, s5, hb6⟩
  have bo6 := hb6
  have c2_0_6 := keepc bo6 c2_0
  have c2_1_6 := keepc bo6 c2_1
  have c2_2_6 := keepc bo6 c2_2
  have c2_3_6 := keepc bo6 c2_3
  have l2_6 := Nat.lt_of_lt_of_le l2 bo6.size
  have bl6 : Below w.heap.size w w6 := bl5.trans (bo6.mono bl5.size)
  clear c2_0 c2_1 c2_2 c2_3 l2 bl5 hb6 bo6
  have i5 : n2 ≤ c := by omega
  have i6 : (n2 : Int) ≤ (m : Int) := by omega
  go_wp2_with fail
  refine (same_rowp HYN A5 A _ _ _ (by omega) s5 (by rw [HYT.out]; exact Shows.take (hs.on bl6) n2)).mono ?_
  rintro e w7 ⟨rfl, hb7⟩
  have bo7 := hb7
  have c2_0_7 := keepc bo7 c2_0_6
  have c2_1_7 := keepc bo7 c2_1_6
  have c2_2_7 := keepc bo7 c2_2_6
  have c2_3_7 := keepc bo7 c2_3_6
  have l2_7 := Nat.lt_of_lt_of_le l2_6 bo7.size
  have s5_7 := s5.on bo7
  have bl7 : Below w.heap.size w w7 := bl6.trans (bo7.mono bl6.size)
  clear c2_0_6 c2_1_6 c2_2_6 c2_3_6 l2_6 s5 bl6 hb7 bo7
  clear c2_0_7 c2_1_7 c2_2_7 c2_3_7 l2_7
  have E7 := hE.on (bl7)
  go_wp2_with fail
  refine (val_as HP3 (parse_any t ht _ E7)).mono ?_
  rintro e w8 ⟨rfl, hb8⟩
  have bo8 := hb8
  have bl8 : Below w.heap.size w w8 := bl7.trans (bo8.mono bl7.size)
  clear bl7 hb8 bo8 E7
  go_wp2_with fail
  refine (num_b e3 _).mono ?_
  rintro e w9 ⟨rfl, hb9⟩
  have bo9 : Below w8.heap.size w8 w9 := ((Below.refl _ w8).alloc (Nat.le_refl _) _).trans (hb9.mono (by simp <;> omega))
  have c3_0 := keepc hb9 (b := w8.heap.size) (o := 0) (v := .int .i64 f3) (by go_simp)
  have c3_1 := keepc hb9 (b := w8.heap.size) (o := 1) (v := .int .u64 x3) (by go_simp)
  have c3_2 := keepc hb9 (b := w8.heap.size) (o := 2) (v := .int .u64 y3) (by go_simp)
  have c3_3 := keepc hb9 (b := w8.heap.size) (o := 3) (v := .int .i64 b3) (by go_simp)
  have l3 : w8.heap.size < w9.heap.size := by
    have := hb9.size
    try simp at this
    omega
  have bl9 : Below w.heap.size w w9 := bl8.trans (bo9.mono bl8.size)
  clear bl8 hb9 bo9
  go_wp2
  go_ret
  exact ⟨rfl, bl9⟩

set_option maxRecDepth 20000 in
set_option maxHeartbeats 4000000 in
theorem back_011 (f : Int) (hi lo : Nat) (b : Int) (hh : hi < 18446744073709551616) (hl : lo < 18446744073709551616) (l : List UInt8) (A : Option Addr) (c m : Nat) (hm : Hid (l.length = m)) (hm9 : m ≤ 140737488355000) (hmc : m ≤ c) (t : List UInt8) (ht : t.length ≤ 140737488355328) (w : World) (hE : Env w) (hs : Shows cel w w.heap.size A l) (X : List UInt8) (n : Nat) (HX : Hid (pB f hi lo b = X)) (HN : Hid (X.length = n)) (hn0 : n = 0) (f2 : Int) (hi2 lo2 : Nat) (b2 : Int) (n2 : Nat) (hh2 : hi2 < 18446744073709551616) (hl2 : lo2 < 18446744073709551616) (HG2 : Hid (ofG (gtP l) = .tuple #[.agg #[.int .i64 f2, .int .u64 (hi2 : Int), .int .u64 (lo2 : Int), .int .i64 b2], .int .i64 (n2 : Int), .int .i64 0])) (Y : List UInt8) (HY : Hid (pB f2 hi2 lo2 b2 = Y)) (HYN : Hid (Y.length = n2)) (hn2 : n2 ≤ m) (hn29 : n2 ≤ 18) (HYT : Hid (Y = l.take n2)) (f3 : Int) (hi3 lo3 : Nat) (b3 : Int) (hh3 : hi3 < 18446744073709551616) (hl3 : lo3 < 18446744073709551616) (HP3 : Hid (ofP (prsP t) = .tuple #[.agg #[.int .i64 f3, .int .u64 (hi3 : Int), .int .u64 (lo3 : Int), .int .i64 b3], .int .i64 0])) (HT3 : Hid (pT f3 hi3 lo3 b3 = t)) :
    Calls Tryd.prog 12 #[.agg #[.int .i64 f, .int .u64 hi, .int .u64 lo, .int .i64 b], .slice A m c, .string ⟨t.toArray⟩] w fun e w' => e = .returned (.bool true) ∧ Below w.heap.size w w' := by
  subst hn0
  go_enter Tryd.func12, Tryd.ntmps12
  have E0 := hE.on ((Below.refl _ w).alloc (by exact Nat.le_refl _) (.cells #[.int .i64 f, .int .u64 hi, .int .u64 lo, .int .i64 b] 26))
  go_wp2_with fail
  refine (first_any _ E0).mono ?_
  rintro e w1 ⟨rfl, hb1⟩
  have bo1 : Below w.heap.size w w1 := ((Below.refl _ w).alloc (Nat.le_refl _) _).trans (hb1.mono (by simp <;> omega))
  have c1_0 := keepc hb1 (b := w.heap.size) (o := 0) (v := .int .i64 f) (by go_simp)
  have c1_1 := keepc hb1 (b := w.heap.size) (o := 1) (v := .int .u64 hi) (by go_simp)
  have c1_2 := keepc hb1 (b := w.heap.size) (o := 2) (v := .int .u64 lo) (by go_simp)
  have c1_3 := keepc hb1 (b := w.heap.size) (o := 3) (v := .int .i64 b) (by go_simp)
  have l1 : w.heap.size < w1.heap.size := by
    have := hb1.size
    try simp at this
    omega
  have bl1 : Below w.heap.size w w1 := (Below.refl _ _).trans (bo1.mono (Nat.le_refl _))
  clear hb1 bo1 E0
  go_wp2_with fail
  refine (put_row HX HN _ hh hl).mono ?_
  rintro e w2 ⟨A1, k1, rfl, s1, hb2⟩
  have bo2 := hb2
  have c1_0_2 := keepc bo2 c1_0
  have c1_1_2 := keepc bo2 c1_1
  have c1_2_2 := keepc bo2 c1_2
  have c1_3_2 := keepc bo2 c1_3
  have l1_2 := Nat.lt_of_lt_of_le l1 bo2.size
  have bl2 : Below w.heap.size w w2 := bl1.trans (bo2.mono bl1.size)
  clear c1_0 c1_1 c1_2 c1_3 l1 bl1 hb2 bo2
  clear c1_0_2 c1_1_2 c1_2_2 c1_3_2 l1_2
  go_wp2_with fail
  refine (bytes_row hm A c _ (by omega) (hs.on bl2)).mono ?_
  rintro e w3 ⟨v9, rfl, hown9, hb3⟩
  have bo3 := hb3
  have bl3 : Below w.heap.size w w3 := bl2.trans (bo3.mono bl2.size)
  clear bl2 hb3 bo3
  go_wp2_with fail
  refine (get_own HG2 hm _ hown9).mono ?_
  rintro e w4 ⟨rfl, hb4⟩
  have bo4 := hb4
  have hown9_4 := own_on hown9 bo4
  have bl4 : Below w.heap.size w w4 := bl3.trans (bo4.mono bl3.size)
  clear hown9 bl3 hb4 bo4
  go_wp2_with fail
  refine (num_b 0 _).mono ?_
  rintro e w5 ⟨rfl, hb5⟩
  have bo5 : Below w4.heap.size w4 w5 := ((Below.refl _ w4).alloc (Nat.le_refl _) _).trans (hb5.mono (by simp <;> omega))
  have c2_0 := keepc hb5 (b := w4.heap.size) (o := 0) (v := .int .i64 f2) (by go_simp)
  have c2_1 := keepc hb5 (b := w4.heap.size) (o := 1) (v := .int .u64 (hi2 : Int)) (by go_simp)
  have c2_2 := keepc hb5 (b := w4.heap.size) (o := 2) (v := .int .u64 (lo2 : Int)) (by go_simp)
  have c2_3 := keepc hb5 (b := w4.heap.size) (o := 3) (v := .int .i64 b2) (by go_simp)
  have l2 : w4.heap.size < w5.heap.size := by
    have := hb5.size
    try simp at this
    omega
  have bl5 : Below w.heap.size w w5 := bl4.trans (bo5.mono bl4.size)
  clear bl4 hb5 bo5
  go_wp2_with fail
  refine (put_row HY HYN _ hh2 hl2).mono ?_
  rintro e w6 ⟨A5, k5, rfl, s5, hb6⟩
  have bo6 := hb6
  have c2_0_6 := keepc bo6 c2_0
  have c2_1_6 := keepc bo6 c2_1
  have c2_2_6 := keepc bo6 c2_2
  have c2_3_6 := keepc bo6 c2_3
  have l2_6 := Nat.lt_of_lt_of_le l2 bo6.size
  have bl6 : Below w.heap.size w w6 := bl5.trans (bo6.mono bl5.size)
  clear c2_0 c2_1 c2_2 c2_3 l2 bl5 hb6 bo6
  have i5 : n2 ≤ c := by omega
  have i6 : (n2 : Int) ≤ (m : Int) := by omega
  go_wp2_with fail
  refine (same_rowp HYN A5 A _ _ _ (by omega) s5 (by rw [HYT.out]; exact Shows.take (hs.on bl6) n2)).mono ?_
  rintro e w7 ⟨rfl, hb7⟩
  have bo7 := hb7
  have c2_0_7 := keepc bo7 c2_0_6
  have c2_1_7 := keepc bo7 c2_1_6
  have c2_2_7 := keepc bo7 c2_2_6
  have c2_3_7 := keepc bo7 c2_3_6
  have l2_7 := Nat.lt_of_lt_of_le l2_6 bo7.size
  have s5_7 := s5.on bo7
  have bl7 : Below w.heap.size w w7 := bl6.trans (bo7.mono bl6.size)
  clear c2_0_6 c2_1_6 c2_2_6 c2_3_6 l2_6 s5 bl6 hb7 bo7
  clear c2_0_7 c2_1_7 c2_2_7 c2_3_7 l2_7
  have E7 := hE.on (bl7)
  go_wp2_with fail
  refine (val_as HP3 (parse_any t ht _ E7)).mono ?_
  rintro e w8 ⟨rfl, hb8⟩
  have bo8 := hb8
  have bl8 : Below w.heap.size w w8 := bl7.trans (bo8.mono bl7.size)
  clear bl7 hb8 bo8 E7
  go_wp2_with fail
  refine (num_b 0 _).mono ?_
  rintro e w9 ⟨rfl, hb9⟩
  have bo9 : Below w8.heap.size w8 w9 := ((Below.refl _ w8).alloc (Nat.le_refl _) _).trans (hb9.mono (by simp <;> omega))
  have c3_0 := keepc hb9 (b := w8.heap.size) (o := 0) (v := .int .i64 f3) (by go_simp)
  have c3_1 := keepc hb9 (b := w8.heap.size) (o := 1) (v := .int .u64 (hi3 : Int)) (by go_simp)
  have c3_2 := keepc hb9 (b := w8.heap.size) (o := 2) (v := .int .u64 (lo3 : Int)) (by go_simp)
  have c3_3 := keepc hb9 (b := w8.heap.size) (o := 3) (v := .int .i64 b3) (by go_simp)
  have l3 : w8.heap.size < w9.heap.size := by
    have := hb9.size
    try simp at this
    omega
  have bl9 : Below w.heap.size w w9 := bl8.trans (bo9.mono bl8.size)
  clear bl8 hb9 bo9
  have E9 := hE.on (bl9)
  go_wp2_with fail
  refine (print_as HT3 _ E9 hh3 hl3).mono ?_
  rintro e w10 ⟨rfl, hb10⟩
  have bo10 := hb10
  have c3_0_10 := keepc bo10 c3_0
  have c3_1_10 := keepc bo10 c3_1
  have c3_2_10 := keepc bo10 c3_2
  have c3_3_10 := keepc bo10 c3_3
  have l3_10 := Nat.lt_of_lt_of_le l3 bo10.size
  have bl10 : Below w.heap.size w w10 := bl9.trans (bo10.mono bl9.size)
  clear c3_0 c3_1 c3_2 c3_3 l3 bl9 hb10 bo10 E9
  go_wp2
  go_ret
  exact ⟨rfl, bl10⟩

set_option maxRecDepth 20000 in
set_option maxHeartbeats 4000000 in
theorem back_100 (f : Int) (hi lo : Nat) (b : Int) (hh : hi < 18446744073709551616) (hl : lo < 18446744073709551616) (l : List UInt8) (A : Option Addr) (c m : Nat) (hm : Hid (l.length = m)) (hm9 : m ≤ 140737488355000) (_hmc : m ≤ c) (t : List UInt8) (ht : t.length ≤ 140737488355328) (w : World) (hE : Env w) (hs : Shows cel w w.heap.size A l) (X : List UInt8) (n : Nat) (HX : Hid (pB f hi lo b = X)) (HN : Hid (X.length = n)) (hn0 : 0 < n) (hn9 : n ≤ 18) (HXL : Hid ((X ++ l).length = n + m)) (HG1 : Hid (ofG (gtP (X ++ l)) = .tuple #[.agg #[.int .i64 f, .int .u64 (hi : Int), .int .u64 (lo : Int), .int .i64 b], .int .i64 (n : Int), .int .i64 0])) (s : List UInt8) (HS : Hid (pT f hi lo b = s)) (hs9 : s.length ≤ 140737488355328) (HP1 : Hid (ofP (prsP s) = .tuple #[.agg #[.int .i64 f, .int .u64 (hi : Int), .int .u64 (lo : Int), .int .i64 b], .int .i64 0])) (f2 x2 y2 b2 n2 e2 : Int) (he2 : e2 ≠ 0) (HG2 : Hid (ofG (gtP l) = .tuple #[.agg #[.int .i64 f2, .int .u64 x2, .int .u64 y2, .int .i64 b2], .int .i64 n2, .int .i64 e2])) (f3 x3 y3 b3 e3 : Int) (he3 : e3 ≠ 0) (HP3 : Hid (ofP (prsP t) = .tuple #[.agg #[.int .i64 f3, .int .u64 x3, .int .u64 y3, .int .i64 b3], .int .i64 e3])) :
    Calls Tryd.prog 12 #[.agg #[.int .i64 f, .int .u64 hi, .int .u64 lo, .int .i64 b], .slice A m c, .string ⟨t.toArray⟩] w fun e w' => e = .returned (.bool true) ∧ Below w.heap.size w w' := by
  have ie2 : (e2 == 0) = false := by rw [beq_eq_false_iff_ne]; exact he2
  clear he2
  have ie3 : (e3 == 0) = false := by rw [beq_eq_false_iff_ne]; exact he3
  clear he3
  go_enter Tryd.func12, Tryd.ntmps12
  have E0 := hE.on ((Below.refl _ w).alloc (by exact Nat.le_refl _) (.cells #[.int .i64 f, .int .u64 hi, .int .u64 lo, .int .i64 b] 26))
  go_wp2_with fail
  refine (first_any _ E0).mono ?_
  rintro e w1 ⟨rfl, hb1⟩
  have bo1 : Below w.heap.size w w1 := ((Below.refl _ w).alloc (Nat.le_refl _) _).trans (hb1.mono (by simp <;> omega))
  have c1_0 := keepc hb1 (b := w.heap.size) (o := 0) (v := .int .i64 f) (by go_simp)
  have c1_1 := keepc hb1 (b := w.heap.size) (o := 1) (v := .int .u64 hi) (by go_simp)
  have c1_2 := keepc hb1 (b := w.heap.size) (o := 2) (v := .int .u64 lo) (by go_simp)
  have c1_3 := keepc hb1 (b := w.heap.size) (o := 3) (v := .int .i64 b) (by go_simp)
  have l1 : w.heap.size < w1.heap.size := by
    have := hb1.size
    try simp at this
    omega
  have bl1 : Below w.heap.size w w1 := (Below.refl _ _).trans (bo1.mono (Nat.le_refl _))
  clear hb1 bo1 E0
  go_wp2_with fail
  refine (put_row HX HN _ hh hl).mono ?_
  rintro e w2 ⟨A1, k1, rfl, s1, hb2⟩
  have bo2 := hb2
  have c1_0_2 := keepc bo2 c1_0
  have c1_1_2 := keepc bo2 c1_1
  have c1_2_2 := keepc bo2 c1_2
  have c1_3_2 := keepc bo2 c1_3
  have l1_2 := Nat.lt_of_lt_of_le l1 bo2.size
  have bl2 : Below w.heap.size w w2 := bl1.trans (bo2.mono bl1.size)
  clear c1_0 c1_1 c1_2 c1_3 l1 bl1 hb2 bo2
  go_wp2_with fail
  refine (bytes_row HN A1 k1 _ (by omega) s1).mono ?_
  rintro e w3x ⟨v3, rfl, hown3, hb3x⟩
  have hsx := (hs.below (bl2.trans (hb3x.mono bl2.size))).more (Nat.le_trans bl2.size hb3x.size)
  go_wp2_with (at_builtin; refine wpList_append_bytes w2.heap.size _ rfl _ _ rfl _ X l A n m c rfl rfl hm.out hown3 hsx hb3x.size (by omega) ?_)
  intro v3' w3 hown3' hgrow3
  rw [← List.map_append] at hown3'
  have hb3 : Below w2.heap.size w2 w3 := hb3x.grown hgrow3 hb3x.size (fun j hj => (hown3.lt j hj).1)
  clear hb3x hgrow3 hsx hown3
  have bo3 := hb3
  have c1_0_3 := keepc bo3 c1_0_2
  have c1_1_3 := keepc bo3 c1_1_2
  have c1_2_3 := keepc bo3 c1_2_2
  have c1_3_3 := keepc bo3 c1_3_2
  have l1_3 := Nat.lt_of_lt_of_le l1_2 bo3.size
  have s1_3 := s1.on bo3
  have bl3 : Below w.heap.size w w3 := bl2.trans (bo3.mono bl2.size)
  clear c1_0_2 c1_1_2 c1_2_2 c1_3_2 l1_2 s1 bl2 hb3 bo3
  go_wp2_with fail
  refine (get_own HG1 HXL _ hown3').mono ?_
  rintro e w4 ⟨rfl, hb4⟩
  have bo4 := hb4
  have c1_0_4 := keepc bo4 c1_0_3
  have c1_1_4 := keepc bo4 c1_1_3
  have c1_2_4 := keepc bo4 c1_2_3
  have c1_3_4 := keepc bo4 c1_3_3
  have l1_4 := Nat.lt_of_lt_of_le l1_3 bo4.size
  have s1_4 := s1_3.on bo4
  have bl4 : Below w.heap.size w w4 := bl3.trans (bo4.mono bl3.size)
  clear c1_0_3 c1_1_3 c1_2_3 c1_3_3 l1_3 s1_3 bl3 hb4 bo4 hown3'
  go_wp2_with fail
  refine (samepre_yes f (hi : Int) (lo : Int) b _).mono ?_
  rintro e w5 ⟨rfl, hb5⟩
  have bo5 : Below w4.heap.size w4 w5 := ((Below.refl _ w4).alloc (Nat.le_refl _) _).trans (hb5.mono (by simp <;> omega))
  have c1_0_5 := keepc bo5 c1_0_4
  have c1_1_5 := keepc bo5 c1_1_4
  have c1_2_5 := keepc bo5 c1_2_4
  have c1_3_5 := keepc bo5 c1_3_4
  have l1_5 := Nat.lt_of_lt_of_le l1_4 bo5.size
  have s1_5 := s1_4.on bo5
  have c2_0 := keepc hb5 (b := w4.heap.size) (o := 0) (v := .int .i64 f) (by go_simp)
  have c2_1 := keepc hb5 (b := w4.heap.size) (o := 1) (v := .int .u64 hi) (by go_simp)
  have c2_2 := keepc hb5 (b := w4.heap.size) (o := 2) (v := .int .u64 lo) (by go_simp)
  have c2_3 := keepc hb5 (b := w4.heap.size) (o := 3) (v := .int .i64 b) (by go_simp)
  have l2 : w4.heap.size < w5.heap.size := by
    have := hb5.size
    try simp at this
    omega
  have bl5 : Below w.heap.size w w5 := bl4.trans (bo5.mono bl4.size)
  clear c1_0_4 c1_1_4 c1_2_4 c1_3_4 l1_4 s1_4 bl4 hb5 bo5
  have E5 := hE.on (bl5)
  go_wp2_with fail
  refine (print_as HS _ E5 hh hl).mono ?_
  rintro e w6 ⟨rfl, hb6⟩
  have bo6 := hb6
  have c1_0_6 := keepc bo6 c1_0_5
  have c1_1_6 := keepc bo6 c1_1_5
  have c1_2_6 := keepc bo6 c1_2_5
  have c1_3_6 := keepc bo6 c1_3_5
  have l1_6 := Nat.lt_of_lt_of_le l1_5 bo6.size
  have s1_6 := s1_5.on bo6
  have c2_0_6 := keepc bo6 c2_0
  have c2_1_6 := keepc bo6 c2_1
  have c2_2_6 := keepc bo6 c2_2
  have c2_3_6 := keepc bo6 c2_3
  have l2_6 := Nat.lt_of_lt_of_le l2 bo6.size
  have bl6 : Below w.heap.size w w6 := bl5.trans (bo6.mono bl5.size)
  clear c1_0_5 c1_1_5 c1_2_5 c1_3_5 l1_5 s1_5 c2_0 c2_1 c2_2 c2_3 l2 bl5 hb6 bo6 E5
  have E6 := hE.on (bl6)
  go_wp2_with fail
  refine (val_as HP1 (parse_any s hs9 _ E6)).mono ?_
  rintro e w7 ⟨rfl, hb7⟩
  have bo7 := hb7
  have c1_0_7 := keepc bo7 c1_0_6
  have c1_1_7 := keepc bo7 c1_1_6
  have c1_2_7 := keepc bo7 c1_2_6
  have c1_3_7 := keepc bo7 c1_3_6
  have l1_7 := Nat.lt_of_lt_of_le l1_6 bo7.size
  have s1_7 := s1_6.on bo7
  have c2_0_7 := keepc bo7 c2_0_6
  have c2_1_7 := keepc bo7 c2_1_6
  have c2_2_7 := keepc bo7 c2_2_6
  have c2_3_7 := keepc bo7 c2_3_6
  have l2_7 := Nat.lt_of_lt_of_le l2_6 bo7.size
  have bl7 : Below w.heap.size w w7 := bl6.trans (bo7.mono bl6.size)
  clear c1_0_6 c1_1_6 c1_2_6 c1_3_6 l1_6 s1_6 c2_0_6 c2_1_6 c2_2_6 c2_3_6 l2_6 bl6 hb7 bo7 E6
  go_wp2_with fail
  refine (samepre_yes f (hi : Int) (lo : Int) b _).mono ?_
  rintro e w8 ⟨rfl, hb8⟩
  have bo8 : Below w7.heap.size w7 w8 := ((Below.refl _ w7).alloc (Nat.le_refl _) _).trans (hb8.mono (by simp <;> omega))
  have c1_0_8 := keepc bo8 c1_0_7
  have c1_1_8 := keepc bo8 c1_1_7
  have c1_2_8 := keepc bo8 c1_2_7
  have c1_3_8 := keepc bo8 c1_3_7
  have l1_8 := Nat.lt_of_lt_of_le l1_7 bo8.size
  have s1_8 := s1_7.on bo8
  have c2_0_8 := keepc bo8 c2_0_7
  have c2_1_8 := keepc bo8 c2_1_7
  have c2_2_8 := keepc bo8 c2_2_7
  have c2_3_8 := keepc bo8 c2_3_7
  have l2_8 := Nat.lt_of_lt_of_le l2_7 bo8.size
  have c3_0 := keepc hb8 (b := w7.heap.size) (o := 0) (v := .int .i64 f) (by go_simp)
  have c3_1 := keepc hb8 (b := w7.heap.size) (o := 1) (v := .int .u64 hi) (by go_simp)
  have c3_2 := keepc hb8 (b := w7.heap.size) (o := 2) (v := .int .u64 lo) (by go_simp)
  have c3_3 := keepc hb8 (b := w7.heap.size) (o := 3) (v := .int .i64 b) (by go_simp)
  have l3 : w7.heap.size < w8.heap.size := by
    have := hb8.size
    try simp at this
    omega
  have bl8 : Below w.heap.size w w8 := bl7.trans (bo8.mono bl7.size)
  clear c1_0_7 c1_1_7 c1_2_7 c1_3_7 l1_7 s1_7 c2_0_7 c2_1_7 c2_2_7 c2_3_7 l2_7 bl7 hb8 bo8
  go_wp2_with fail
  refine (num_b 0 _).mono ?_
  rintro e w9 ⟨rfl, hb9⟩
  have bo9 := hb9
  have c1_0_9 := keepc bo9 c1_0_8
  have c1_1_9 := keepc bo9 c1_1_8
  have c1_2_9 := keepc bo9 c1_2_8
  have c1_3_9 := keepc bo9 c1_3_8
  have l1_9 := Nat.lt_of_lt_of_le l1_8 bo9.size
  have s1_9 := s1_8.on bo9
  have c2_0_9 := keepc bo9 c2_0_8
  have c2_1_9 := keepc bo9 c2_1_8
  have c2_2_9 := keepc bo9 c2_2_8
  have c2_3_9 := keepc bo9 c2_3_8
  have l2_9 := Nat.lt_of_lt_of_le l2_8 bo9.size
  have c3_0_9 := keepc bo9 c3_0
  have c3_1_9 := keepc bo9 c3_1
  have c3_2_9 := keepc bo9 c3_2
  have c3_3_9 := keepc bo9 c3_3
  have l3_9 := Nat.lt_of_lt_of_le l3 bo9.size
  have bl9 : Below w.heap.size w w9 := bl8.trans (bo9.mono bl8.size)
  clear c1_0_8 c1_1_8 c1_2_8 c1_3_8 l1_8 s1_8 c2_0_8 c2_1_8 c2_2_8 c2_3_8 l2_8 c3_0 c3_1 c3_2 c3_3 l3 bl8 hb9 bo9
  go_wp2_with fail
  refine (num_b 0 _).mono ?_
  rintro e w10 ⟨rfl, hb10⟩
  have bo10 := hb10
  have c1_0_10 := keepc bo10 c1_0_9
  have c1_1_10 := keepc bo10 c1_1_9
  have c1_2_10 := keepc bo10 c1_2_9
  have c1_3_10 := keepc bo10 c1_3_9
  have l1_10 := Nat.lt_of_lt_of_le l1_9 bo10.size
  have s1_10 := s1_9.on bo10
  have c2_0_10 := keepc bo10 c2_0_9
  have c2_1_10 := keepc bo10 c2_1_9
  have c2_2_10 := keepc bo10 c2_2_9
  have c2_3_10 := keepc bo10 c2_3_9
  have l2_10 := Nat.lt_of_lt_of_le l2_9 bo10.size
  have c3_0_10 := keepc bo10 c3_0_9
  have c3_1_10 := keepc bo10 c3_1_9
  have c3_2_10 := keepc bo10 c3_2_9
  have c3_3_10 := keepc bo10 c3_3_9
  have l3_10 := Nat.lt_of_lt_of_le l3_9 bo10.size
  have bl10 : Below w.heap.size w w10 := bl9.trans (bo10.mono bl9.size)
  clear c1_0_9 c1_1_9 c1_2_9 c1_3_9 l1_9 s1_9 c2_0_9 c2_1_9 c2_2_9 c2_3_9 l2_9 c3_0_9 c3_1_9 c3_2_9 c3_3_9 l3_9 bl9 hb10 bo10
  clear c1_0_10 c1_1_10 c1_2_10 c1_3_10 l1_10 c2_0_10 c2_1_10 c2_2_10 c2_3_10 l2_10 c3_0_10 c3_1_10 c3_2_10 c3_3_10 l3_10
  go_wp2_with fail
  refine (bytes_row hm A c _ (by omega) (hs.on bl10)).mono ?_
  rintro e w11 ⟨v9, rfl, hown9, hb11⟩
  have bo11 := hb11
  have bl11 : Below w.heap.size w w11 := bl10.trans (bo11.mono bl10.size)
  clear bl10 hb11 bo11
  go_wp2_with fail
  refine (get_own HG2 hm _ hown9).mono ?_
  rintro e w12 ⟨rfl, hb12⟩
  have bo12 := hb12
  have hown9_12 := own_on hown9 bo12
  have bl12 : Below w.heap.size w w12 := bl11.trans (bo12.mono bl11.size)
  clear hown9 bl11 hb12 bo12
  go_wp2_with fail
  refine (num_b e2 _).mono ?_
  rintro e w13 ⟨rfl, hb13⟩
  have bo13 : Below w12.heap.size w12 w13 := ((Below.refl _ w12).alloc (Nat.le_refl _) _).trans (hb13.mono (by simp <;> omega))
  have c4_0 := keepc hb13 (b := w12.heap.size) (o := 0) (v := .int .i64 f2) (by go_simp)
  have c4_1 := keepc hb13 (b := w12.heap.size) (o := 1) (v := .int .u64 x2) (by go_simp)
  have c4_2 := keepc hb13 (b := w12.heap.size) (o := 2) (v := .int .u64 y2) (by go_simp)
  have c4_3 := keepc hb13 (b := w12.heap.size) (o := 3) (v := .int .i64 b2) (by go_simp)
  have l4 : w12.heap.size < w13.heap.size := by
    have := hb13.size
    try simp at this
    omega
  have bl13 : Below w.heap.size w w13 := bl12.trans (bo13.mono bl12.size)
  clear bl12 hb13 bo13
  clear c4_0 c4_1 c4_2 c4_3 l4
  have E13 := hE.on (bl13)
  go_wp2_with fail
  refine (val_as HP3 (parse_any t ht _ E13)).mono ?_
  rintro e w14 ⟨rfl, hb14⟩
  have bo14 := hb14
  have bl14 : Below w.heap.size w w14 := bl13.trans (bo14.mono bl13.size)
  clear bl13 hb14 bo14 E13
  go_wp2_with fail
  refine (num_b e3 _).mono ?_
  rintro e w15 ⟨rfl, hb15⟩
  have bo15 : Below w14.heap.size w14 w15 := ((Below.refl _ w14).alloc (Nat.le_refl _) _).trans (hb15.mono (by simp <;> omega))
  have c5_0 := keepc hb15 (b := w14.heap.size) (o := 0) (v := .int .i64 f3) (by go_simp)
  have c5_1 := keepc hb15 (b := w14.heap.size) (o := 1) (v := .int .u64 x3) (by go_simp)
  have c5_2 := keepc hb15 (b := w14.heap.size) (o := 2) (v := .int .u64 y3) (by go_simp)
  have c5_3 := keepc hb15 (b := w14.heap.size) (o := 3) (v := .int .i64 b3) (by go_simp)
  have l5 : w14.heap.size < w15.heap.size := by
    have := hb15.size
    try simp at this
    omega
  have bl15 : Below w.heap.size w w15 := bl14.trans (bo15.mono bl14.size)
  clear bl14 hb15 bo15
  go_wp2
  go_ret
  exact ⟨rfl, bl15⟩

set_option maxRecDepth 20000 in
set_option maxHeartbeats 4000000 in
theorem back_101 (f : Int) (hi lo : Nat) (b : Int) (hh : hi < 18446744073709551616) (hl : lo < 18446744073709551616) (l : List UInt8) (A : Option Addr) (c m : Nat) (hm : Hid (l.length = m)) (hm9 : m ≤ 140737488355000) (_hmc : m ≤ c) (t : List UInt8) (ht : t.length ≤ 140737488355328) (w : World) (hE : Env w) (hs : Shows cel w w.heap.size A l) (X : List UInt8) (n : Nat) (HX : Hid (pB f hi lo b = X)) (HN : Hid (X.length = n)) (hn0 : 0 < n) (hn9 : n ≤ 18) (HXL : Hid ((X ++ l).length = n + m)) (HG1 : Hid (ofG (gtP (X ++ l)) = .tuple #[.agg #[.int .i64 f, .int .u64 (hi : Int), .int .u64 (lo : Int), .int .i64 b], .int .i64 (n : Int), .int .i64 0])) (s : List UInt8) (HS : Hid (pT f hi lo b = s)) (hs9 : s.length ≤ 140737488355328) (HP1 : Hid (ofP (prsP s) = .tuple #[.agg #[.int .i64 f, .int .u64 (hi : Int), .int .u64 (lo : Int), .int .i64 b], .int .i64 0])) (f2 x2 y2 b2 n2 e2 : Int) (he2 : e2 ≠ 0) (HG2 : Hid (ofG (gtP l) = .tuple #[.agg #[.int .i64 f2, .int .u64 x2, .int .u64 y2, .int .i64 b2], .int .i64 n2, .int .i64 e2])) (f3 : Int) (hi3 lo3 : Nat) (b3 : Int) (hh3 : hi3 < 18446744073709551616) (hl3 : lo3 < 18446744073709551616) (HP3 : Hid (ofP (prsP t) = .tuple #[.agg #[.int .i64 f3, .int .u64 (hi3 : Int), .int .u64 (lo3 : Int), .int .i64 b3], .int .i64 0])) (HT3 : Hid (pT f3 hi3 lo3 b3 = t)) :
    Calls Tryd.prog 12 #[.agg #[.int .i64 f, .int .u64 hi, .int .u64 lo, .int .i64 b], .slice A m c, .string ⟨t.toArray⟩] w fun e w' => e = .returned (.bool true) ∧ Below w.heap.size w w' := by
  have ie2 : (e2 == 0) = false := by rw [beq_eq_false_iff_ne]; exact he2
  clear he2
  go_enter Tryd.func12, Tryd.ntmps12
  have E0 := hE.on ((Below.refl _ w).alloc (by exact Nat.le_refl _) (.cells #[.int .i64 f, .int .u64 hi, .int .u64 lo, .int .i64 b] 26))
  go_wp2_with fail
  refine (first_any _ E0).mono ?_
  rintro e w1 ⟨rfl, hb1⟩
  have bo1 : Below w.heap.size w w1 := ((Below.refl _ w).alloc (Nat.le_refl _) _).trans (hb1.mono (by simp <;> omega))
  have c1_0 := keepc hb1 (b := w.heap.size) (o := 0) (v := .int .i64 f) (by go_simp)
  have c1_1 := keepc hb1 (b := w.heap.size) (o := 1) (v := .int .u64 hi) (by go_simp)
  have c1_2 := keepc hb1 (b := w.heap.size) (o := 2) (v := .int .u64 lo) (by go_simp)
  have c1_3 := keepc hb1 (b := w.heap.size) (o := 3) (v := .int .i64 b) (by go_simp)
  have l1 : w.heap.size < w1.heap.size := by
    have := hb1.size
    try simp at this
    omega
  have bl1 : Below w.heap.size w w1 := (Below.refl _ _).trans (bo1.mono (Nat.le_refl _))
  clear hb1 bo1 E0
  go_wp2_with fail
  refine (put_row HX HN _ hh hl).mono ?_
  rintro e w2 ⟨A1, k1, rfl, s1, hb2⟩
  have bo2 := hb2
  have c1_0_2 := keepc bo2 c1_0
  have c1_1_2 := keepc bo2 c1_1
  have c1_2_2 := keepc bo2 c1_2
  have c1_3_2 := keepc bo2 c1_3
  have l1_2 := Nat.lt_of_lt_of_le l1 bo2.size
  have bl2 : Below w.heap.size w w2 := bl1.trans (bo2.mono bl1.size)
  clear c1_0 c1_1 c1_2 c1_3 l1 bl1 hb2 bo2
  go_wp2_with fail
  refine (bytes_row HN A1 k1 _ (by omega) s1).mono ?_
  rintro e w3x ⟨v3, rfl, hown3, hb3x⟩
  have hsx := (hs.below (bl2.trans (hb3x.mono bl2.size))).more (Nat.le_trans bl2.size hb3x.size)
  go_wp2_with (at_builtin; refine wpList_append_bytes w2.heap.size _ rfl _ _ rfl _ X l A n m c rfl rfl hm.out hown3 hsx hb3x.size (by omega) ?_)
  intro v3' w3 hown3' hgrow3
  rw [← List.map_append] at hown3'
  have hb3 : Below w2.heap.size w2 w3 := hb3x.grown hgrow3 hb3x.size (fun j hj => (hown3.lt j hj).1)
  clear hb3x hgrow3 hsx hown3
  have bo3 := hb3
  have c1_0_3 := keepc bo3 c1_0_2
  have c1_1_3 := keepc bo3 c1_1_2
  have c1_2_3 := keepc bo3 c1_2_2
  have c1_3_3 := keepc bo3 c1_3_2
  have l1_3 := Nat.lt_of_lt_of_le l1_2 bo3.size
  have s1_3 := s1.on bo3
  have bl3 : Below w.heap.size w w3 := bl2.trans (bo3.mono bl2.size)
  clear c1_0_2 c1_1_2 c1_2_2 c1_3_2 l1_2 s1 bl2 hb3 bo3
  go_wp2_with fail
  refine (get_own HG1 HXL _ hown3').mono ?_
  rintro e w4 ⟨rfl, hb4⟩
  have bo4 := hb4
  have c1_0_4 := keepc bo4 c1_0_3
  have c1_1_4 := keepc bo4 c1_1_3
  have c1_2_4 := keepc bo4 c1_2_3
  have c1_3_4 := keepc bo4 c1_3_3
  have l1_4 := Nat.lt_of_lt_of_le l1_3 bo4.size
  have s1_4 := s1_3.on bo4
  have bl4 : Below w.heap.size w w4 := bl3.trans (bo4.mono bl3.size)
  clear c1_0_3 c1_1_3 c1_2_3 c1_3_3 l1_3 s1_3 bl3 hb4 bo4 hown3'
  go_wp2_with fail
  refine (samepre_yes f (hi : Int) (lo : Int) b _).mono ?_
  rintro e w5 ⟨rfl, hb5⟩
  have bo5 : Below w4.heap.size w4 w5 := ((Below.refl _ w4).alloc (Nat.le_refl _) _).trans (hb5.mono (by simp <;> omega))
  have c1_0_5 := keepc bo5 c1_0_4
  have c1_1_5 := keepc bo5 c1_1_4
  have c1_2_5 := keepc bo5 c1_2_4
  have c1_3_5 := keepc bo5 c1_3_4
  have l1_5 := Nat.lt_of_lt_of_le l1_4 bo5.size
  have s1_5 := s1_4.on bo5
  have c2_0 := keepc hb5 (b := w4.heap.size) (o := 0) (v := .int .i64 f) (by go_simp)
  have c2_1 := keepc hb5 (b := w4.heap.size) (o := 1) (v := .int .u64 hi) (by go_simp)
  have c2_2 := keepc hb5 (b := w4.heap.size) (o := 2) (v := .int .u64 lo) (by go_simp)
  have c2_3 := keepc hb5 (b := w4.heap.size) (o := 3) (v := .int .i64 b) (by go_simp)
  have l2 : w4.heap.size < w5.heap.size := by
    have := hb5.size
    try simp at this
    omega
  have bl5 : Below w.heap.size w w5 := bl4.trans (bo5.mono bl4.size)
  clear c1_0_4 c1_1_4 c1_2_4 c1_3_4 l1_4 s1_4 bl4 hb5 bo5
  have E5 := hE.on (bl5)
  go_wp2_with fail
  refine (print_as HS _ E5 hh hl).mono ?_
  rintro e w6 ⟨rfl, hb6⟩
  have bo6 := hb6
  have c1_0_6 := keepc bo6 c1_0_5
  have c1_1_6 := keepc bo6 c1_1_5
  have c1_2_6 := keepc bo6 c1_2_5
  have c1_3_6 := keepc bo6 c1_3_5
  have l1_6 := Nat.lt_of_lt_of_le l1_5 bo6.size
  have s1_6 := s1_5.on bo6
  have c2_0_6 := keepc bo6 c2_0
  have c2_1_6 := keepc bo6 c2_1
  have c2_2_6 := keepc bo6 c2_2
  have c2_3_6 := keepc bo6 c2_3
  have l2_6 := Nat.lt_of_lt_of_le l2 bo6.size
  have bl6 : Below w.heap.size w w6 := bl5.trans (bo6.mono bl5.size)
  clear c1_0_5 c1_1_5 c1_2_5 c1_3_5 l1_5 s1_5 c2_0 c2_1 c2_2 c2_3 l2 bl5 hb6 bo6 E5
  have E6 := hE.on (bl6)
  go_wp2_with fail
  refine (val_as HP1 (parse_any s hs9 _ E6)).mono ?_
  rintro e w7 ⟨rfl, hb7⟩
  have bo7 := hb7
  have c1_0_7 := keepc bo7 c1_0_6
  have c1_1_7 := keepc bo7 c1_1_6
  have c1_2_7 := keepc bo7 c1_2_6
  have c1_3_7 := keepc bo7 c1_3_6
  have l1_7 := Nat.lt_of_lt_of_le l1_6 bo7.size
  have s1_7 := s1_6.on bo7
  have c2_0_7 := keepc bo7 c2_0_6
  have c2_1_7 := keepc bo7 c2_1_6
  have c2_2_7 := keepc bo7 c2_2_6
  have c2_3_7 := keepc bo7 c2_3_6
  have l2_7 := Nat.lt_of_lt_of_le l2_6 bo7.size
  have bl7 : Below w.heap.size w w7 := bl6.trans (bo7.mono bl6.size)
  clear c1_0_6 c1_1_6 c1_2_6 c1_3_6 l1_6 s1_6 c2_0_6 c2_1_6 c2_2_6 c2_3_6 l2_6 bl6 hb7 bo7 E6
  go_wp2_with fail
  refine (samepre_yes f (hi : Int) (lo : Int) b _).mono ?_
  rintro e w8 ⟨rfl, hb8⟩
  have bo8 : Below w7.heap.size w7 w8 := ((Below.refl _ w7).alloc (Nat.le_refl _) _).trans (hb8.mono (by simp <;> omega))
  have c1_0_8 := keepc bo8 c1_0_7
  have c1_1_8 := keepc bo8 c1_1_7
  have c1_2_8 := keepc bo8 c1_2_7
  have c1_3_8 := keepc bo8 c1_3_7
  have l1_8 := Nat.lt_of_lt_of_le l1_7 bo8.size
  have s1_8 := s1_7.on bo8
  have c2_0_8 := keepc bo8 c2_0_7
  have c2_1_8 := keepc bo8 c2_1_7
  have c2_2_8 := keepc bo8 c2_2_7
  have c2_3_8 := keepc bo8 c2_3_7
  have l2_8 := Nat.lt_of_lt_of_le l2_7 bo8.size
  have c3_0 := keepc hb8 (b := w7.heap.size) (o := 0) (v := .int .i64 f) (by go_simp)
  have c3_1 := keepc hb8 (b := w7.heap.size) (o := 1) (v := .int .u64 hi) (by go_simp)
  have c3_2 := keepc hb8 (b := w7.heap.size) (o := 2) (v := .int .u64 lo) (by go_simp)
  have c3_3 := keepc hb8 (b := w7.heap.size) (o := 3) (v := .int .i64 b) (by go_simp)
  have l3 : w7.heap.size < w8.heap.size := by
    have := hb8.size
    try simp at this
    omega
  have bl8 : Below w.heap.size w w8 := bl7.trans (bo8.mono bl7.size)
  clear c1_0_7 c1_1_7 c1_2_7 c1_3_7 l1_7 s1_7 c2_0_7 c2_1_7 c2_2_7 c2_3_7 l2_7 bl7 hb8 bo8
  go_wp2_with fail
  refine (num_b 0 _).mono ?_
  rintro e w9 ⟨rfl, hb9⟩
  have bo9 := hb9
  have c1_0_9 := keepc bo9 c1_0_8
  have c1_1_9 := keepc bo9 c1_1_8
  have c1_2_9 := keepc bo9 c1_2_8
  have c1_3_9 := keepc bo9 c1_3_8
  have l1_9 := Nat.lt_of_lt_of_le l1_8 bo9.size
  have s1_9 := s1_8.on bo9
  have c2_0_9 := keepc bo9 c2_0_8
  have c2_1_9 := keepc bo9 c2_1_8
  have c2_2_9 := keepc bo9 c2_2_8
  have c2_3_9 := keepc bo9 c2_3_8
  have l2_9 := Nat.lt_of_lt_of_le l2_8 bo9.size
  have c3_0_9 := keepc bo9 c3_0
  have c3_1_9 := keepc bo9 c3_1
  have c3_2_9 := keepc bo9 c3_2
  have c3_3_9 := keepc bo9 c3_3
  have l3_9 := Nat.lt_of_lt_of_le l3 bo9.size
  have bl9 : Below w.heap.size w w9 := bl8.trans (bo9.mono bl8.size)
  clear c1_0_8 c1_1_8 c1_2_8 c1_3_8 l1_8 s1_8 c2_0_8 c2_1_8 c2_2_8 c2_3_8 l2_8 c3_0 c3_1 c3_2 c3_3 l3 bl8 hb9 bo9
  go_wp2_with fail
  refine (num_b 0 _).mono ?_
  rintro e w10 ⟨rfl, hb10⟩
  have bo10 := hb10
  have c1_0_10 := keepc bo10 c1_0_9
  have c1_1_10 := keepc bo10 c1_1_9
  have c1_2_10 := keepc bo10 c1_2_9
  have c1_3_10 := keepc bo10 c1_3_9
  have l1_10 := Nat.lt_of_lt_of_le l1_9 bo10.size
  have s1_10 := s1_9.on bo10
  have c2_0_10 := keepc bo10 c2_0_9
  have c2_1_10 := keepc bo10 c2_1_9
  have c2_2_10 := keepc bo10 c2_2_9
  have c2_3_10 := keepc bo10 c2_3_9
  have l2_10 := Nat.lt_of_lt_of_le l2_9 bo10.size
  have c3_0_10 := keepc bo10 c3_0_9
  have c3_1_10 := keepc bo10 c3_1_9
  have c3_2_10 := keepc bo10 c3_2_9
  have c3_3_10 := keepc bo10 c3_3_9
  have l3_10 := Nat.lt_of_lt_of_le l3_9 bo10.size
  have bl10 : Below w.heap.size w w10 := bl9.trans (bo10.mono bl9.size)
  clear c1_0_9 c1_1_9 c1_2_9 c1_3_9 l1_9 s1_9 c2_0_9 c2_1_9 c2_2_9 c2_3_9 l2_9 c3_0_9 c3_1_9 c3_2_9 c3_3_9 l3_9 bl9 hb10 bo10
  clear c1_0_10 c1_1_10 c1_2_10 c1_3_10 l1_10 c2_0_10 c2_1_10 c2_2_10 c2_3_10 l2_10 c3_0_10 c3_1_10 c3_2_10 c3_3_10 l3_10
  go_wp2_with fail
  refine (bytes_row hm A c _ (by omega) (hs.on bl10)).mono ?_
  rintro e w11 ⟨v9, rfl, hown9, hb11⟩
  have bo11 := hb11
  have bl11 : Below w.heap.size w w11 := bl10.trans (bo11.mono bl10.size)
  clear bl10 hb11 bo11
  go_wp2_with fail
  refine (get_own HG2 hm _ hown9).mono ?_
  rintro e w12 ⟨rfl, hb12⟩
  have bo12 := hb12
  have hown9_12 := own_on hown9 bo12
  have bl12 : Below w.heap.size w w12 := bl11.trans (bo12.mono bl11.size)
  clear hown9 bl11 hb12 bo12
  go_wp2_with fail
  refine (num_b e2 _).mono ?_
  rintro e w13 ⟨rfl, hb13⟩
  have bo13 : Below w12.heap.size w12 w13 := ((Below.refl _ w12).alloc (Nat.le_refl _) _).trans (hb13.mono (by simp <;> omega))
  have c4_0 := keepc hb13 (b := w12.heap.size) (o := 0) (v := .int .i64 f2) (by go_simp)
  have c4_1 := keepc hb13 (b := w12.heap.size) (o := 1) (v := .int .u64 x2) (by go_simp)
  have c4_2 := keepc hb13 (b := w12.heap.size) (o := 2) (v := .int .u64 y2) (by go_simp)
  have c4_3 := keepc hb13 (b := w12.heap.size) (o := 3) (v := .int .i64 b2) (by go_simp)
  have l4 : w12.heap.size < w13.heap.size := by
    have := hb13.size
    try simp at this
    omega
  have bl13 : Below w.heap.size w w13 := bl12.trans (bo13.mono bl12.size)
  clear bl12 hb13 bo13
  clear c4_0 c4_1 c4_2 c4_3 l4
  have E13 := hE.on (bl13)
  go_wp2_with fail
  refine (val_as HP3 (parse_any t ht _ E13)).mono ?_
  rintro e w14 ⟨rfl, hb14⟩
  have bo14 := hb14
  have bl14 : Below w.heap.size w w14 := bl13.trans (bo14.mono bl13.size)
  clear bl13 hb14 bo14 E13
  go_wp2_with fail
  refine (num_b 0 _).mono ?_
  rintro e w15 ⟨rfl, hb15⟩
  have bo15 : Below w14.heap.size w14 w15 := ((Below.refl _ w14).alloc (Nat.le_refl _) _).trans (hb15.mono (by simp <;> omega))
  have c5_0 := keepc hb15 (b := w14.heap.size) (o := 0) (v := .int .i64 f3) (by go_simp)
  have c5_1 := keepc hb15 (b := w14.heap.size) (o := 1) (v := .int .u64 (hi3 : Int)) (by go_simp)
  have c5_2 := keepc hb15 (b := w14.heap.size) (o := 2) (v := .int .u64 (lo3 : Int)) (by go_simp)
  have c5_3 := keepc hb15 (b := w14.heap.size) (o := 3) (v := .int .i64 b3) (by go_simp)
  have l5 : w14.heap.size < w15.heap.size := by
    have := hb15.size
    try simp at this
    omega
  have bl15 : Below w.heap.size w w15 := bl14.trans (bo15.mono bl14.size)
  clear bl14 hb15 bo15
  have E15 := hE.on (bl15)
  go_wp2_with fail
  refine (print_as HT3 _ E15 hh3 hl3).mono ?_
  rintro e w16 ⟨rfl, hb16⟩
  have bo16 := hb16
  have c5_0_16 := keepc bo16 c5_0
  have c5_1_16 := keepc bo16 c5_1
  have c5_2_16 := keepc bo16 c5_2
  have c5_3_16 := keepc bo16 c5_3
  have l5_16 := Nat.lt_of_lt_of_le l5 bo16.size
  have bl16 : Below w.heap.size w w16 := bl15.trans (bo16.mono bl15.size)
  clear c5_0 c5_1 c5_2 c5_3 l5 bl15 hb16 bo16 E15
  go_wp2
  go_ret
  exact ⟨rfl, bl16⟩

set_option maxRecDepth 20000 in
set_option maxHeartbeats 4000000 in
theorem back_110 (f : Int) (hi lo : Nat) (b : Int) (hh : hi < 18446744073709551616) (hl : lo < 18446744073709551616) (l : List UInt8) (A : Option Addr) (c m : Nat) (hm : Hid (l.length = m)) (hm9 : m ≤ 140737488355000) (hmc : m ≤ c) (t : List UInt8) (ht : t.length ≤ 140737488355328) (w : World) (hE : Env w) (hs : Shows cel w w.heap.size A l) (X : List UInt8) (n : Nat) (HX : Hid (pB f hi lo b = X)) (HN : Hid (X.length = n)) (hn0 : 0 < n) (hn9 : n ≤ 18) (HXL : Hid ((X ++ l).length = n + m)) (HG1 : Hid (ofG (gtP (X ++ l)) = .tuple #[.agg #[.int .i64 f, .int .u64 (hi : Int), .int .u64 (lo : Int), .int .i64 b], .int .i64 (n : Int), .int .i64 0])) (s : List UInt8) (HS : Hid (pT f hi lo b = s)) (hs9 : s.length ≤ 140737488355328) (HP1 : Hid (ofP (prsP s) = .tuple #[.agg #[.int .i64 f, .int .u64 (hi : Int), .int .u64 (lo : Int), .int .i64 b], .int .i64 0])) (f2 : Int) (hi2 lo2 : Nat) (b2 : Int) (n2 : Nat) (hh2 : hi2 < 18446744073709551616) (hl2 : lo2 < 18446744073709551616) (HG2 : Hid (ofG (gtP l) = .tuple #[.agg #[.int .i64 f2, .int .u64 (hi2 : Int), .int .u64 (lo2 : Int), .int .i64 b2], .int .i64 (n2 : Int), .int .i64 0])) (Y : List UInt8) (HY : Hid (pB f2 hi2 lo2 b2 = Y)) (HYN : Hid (Y.length = n2)) (hn2 : n2 ≤ m) (hn29 : n2 ≤ 18) (HYT : Hid (Y = l.take n2)) (f3 x3 y3 b3 e3 : Int) (he3 : e3 ≠ 0) (HP3 : Hid (ofP (prsP t) = .tuple #[.agg #[.int .i64 f3, .int .u64 x3, .int .u64 y3, .int .i64 b3], .int .i64 e3])) :
    Calls Tryd.prog 12 #[.agg #[.int .i64 f, .int .u64 hi, .int .u64 lo, .int .i64 b], .slice A m c, .string ⟨t.toArray⟩] w fun e w' => e = .returned (.bool true) ∧ Below w.heap.size w w' := by
  have ie3 : (e3 == 0) = false := by rw [beq_eq_false_iff_ne]; exact he3
  clear he3
  go_enter Tryd.func12, Tryd.ntmps12
  have E0 := hE.on ((Below.refl _ w).alloc (by exact Nat.le_refl _) (.cells #[.int .i64 f, .int .u64 hi, .int .u64 lo, .int .i64 b] 26))
  go_wp2_with fail
  refine (first_any _ E0).mono ?_
  rintro e w1 ⟨rfl, hb1⟩
  have bo1 : Below w.heap.size w w1 := ((Below.refl _ w).alloc (Nat.le_refl _) _).trans (hb1.mono (by simp <;> omega))
  have c1_0 := keepc hb1 (b := w.heap.size) (o := 0) (v := .int .i64 f) (by go_simp)
  have c1_1 := keepc hb1 (b := w.heap.size) (o := 1) (v := .int .u64 hi) (by go_simp)
  have c1_2 := keepc hb1 (b := w.heap.size) (o := 2) (v := .int .u64 lo) (by go_simp)
  have c1_3 := keepc hb1 (b := w.heap.size) (o := 3) (v := .int .i64 b) (by go_simp)
  have l1 : w.heap.size < w1.heap.size := by
    have := hb1.size
    try simp at this
    omega
  have bl1 : Below w.heap.size w w1 := (Below.refl _ _).trans (bo1.mono (Nat.le_refl _))
  clear hb1 bo1 E0
  go_wp2_with fail
  refine (put_row HX HN _ hh hl).mono ?_
  rintro e w2 ⟨A1, k1, rfl, s1, hb2⟩
  have bo2 := hb2
  have c1_0_2 := keepc bo2 c1_0
  have c1_1_2 := keepc bo2 c1_1
  have c1_2_2 := keepc bo2 c1_2
  have c1_3_2 := keepc bo2 c1_3
  have l1_2 := Nat.lt_of_lt_of_le l1 bo2.size
  have bl2 : Below w.heap.size w w2 := bl1.trans (bo2.mono bl1.size)
  clear c1_0 c1_1 c1_2 c1_3 l1 bl1 hb2 bo2
  go_wp2_with fail
  refine (bytes_row HN A1 k1 _ (by omega) s1).mono ?_
  rintro e w3x ⟨v3, rfl, hown3, hb3x⟩
  have hsx := (hs.below (bl2.trans (hb3x.mono bl2.size))).more (Nat.le_trans bl2.size hb3x.size)
  go_wp2_with (at_builtin; refine wpList_append_bytes w2.heap.size _ rfl _ _ rfl _ X l A n m c rfl rfl hm.out hown3 hsx hb3x.size (by omega) ?_)
  intro v3' w3 hown3' hgrow3
  rw [← List.map_append] at hown3'
  have hb3 : Below w2.heap.size w2 w3 := hb3x.grown hgrow3 hb3x.size (fun j hj => (hown3.lt j hj).1)
  clear hb3x hgrow3 hsx hown3
  have bo3 := hb3
  have c1_0_3 := keepc bo3 c1_0_2
  have c1_1_3 := keepc bo3 c1_1_2
  have c1_2_3 := keepc bo3 c1_2_2
  have c1_3_3 := keepc bo3 c1_3_2
  have l1_3 := Nat.lt_of_lt_of_le l1_2 bo3.size
  have s1_3 := s1.on bo3
  have bl3 : Below w.heap.size w w3 := bl2.trans (bo3.mono bl2.size)
  clear c1_0_2 c1_1_2 c1_2_2 c1_3_2 l1_2 s1 bl2 hb3 bo3
  go_wp2_with fail
  refine (get_own HG1 HXL _ hown3').mono ?_
  rintro e w4 ⟨rfl, hb4⟩
  have bo4 := hb4
  have c1_0_4 := keepc bo4 c1_0_3
  have c1_1_4 := keepc bo4 c1_1_3
  have c1_2_4 := keepc bo4 c1_2_3
  have c1_3_4 := keepc bo4 c1_3_3
  have l1_4 := Nat.lt_of_lt_of_le l1_3 bo4.size
  have s1_4 := s1_3.on bo4
  have bl4 : Below w.heap.size w w4 := bl3.trans (bo4.mono bl3.size)
  clear c1_0_3 c1_1_3 c1_2_3 c1_3_3 l1_3 s1_3 bl3 hb4 bo4 hown3'
  go_wp2_with fail
  refine (samepre_yes f (hi : Int) (lo : Int) b _).mono ?_
  rintro e w5 ⟨rfl, hb5⟩
  have bo5 : Below w4.heap.size w4 w5 := ((Below.refl _ w4).alloc (Nat.le_refl _) _).trans (hb5.mono (by simp <;> omega))
  have c1_0_5 := keepc bo5 c1_0_4
  have c1_1_5 := keepc bo5 c1_1_4
  have c1_2_5 := keepc bo5 c1_2_4
  have c1_3_5 := keepc bo5 c1_3_4
  have l1_5 := Nat.lt_of_lt_of_le l1_4 bo5.size
  have s1_5 := s1_4.on bo5
  have c2_0 := keepc hb5 (b := w4.heap.size) (o := 0) (v := .int .i64 f) (by go_simp)
  have c2_1 := keepc hb5 (b := w4.heap.size) (o := 1) (v := .int .u64 hi) (by go_simp)
  have c2_2 := keepc hb5 (b := w4.heap.size) (o := 2) (v := .int .u64 lo) (by go_simp)
  have c2_3 := keepc hb5 (b := w4.heap.size) (o := 3) (v := .int .i64 b) (by go_simp)
  have l2 : w4.heap.size < w5.heap.size := by
    have := hb5.size
    try simp at this
    omega
  have bl5 : Below w.heap.size w w5 := bl4.trans (bo5.mono bl4.size)
  clear c1_0_4 c1_1_4 c1_2_4 c1_3_4 l1_4 s1_4 bl4 hb5 bo5
  have E5 := hE.on (bl5)
  go_wp2_with fail
  refine (print_as HS _ E5 hh hl).mono ?_
  rintro e w6 ⟨rfl, hb6⟩
  have bo6 := hb6
  have c1_0_6 := keepc bo6 c1_0_5
  have c1_1_6 := keepc bo6 c1_1_5
  have c1_2_6 := keepc bo6 c1_2_5
  have c1_3_6 := keepc bo6 c1_3_5
  have l1_6 := Nat.lt_of_lt_of_le l1_5 bo6.size
  have s1_6 := s1_5.on bo6
  have c2_0_6 := keepc bo6 c2_0
  have c2_1_6 := keepc bo6 c2_1
  have c2_2_6 := keepc bo6 c2_2
  have c2_3_6 := keepc bo6 c2_3
  have l2_6 := Nat.lt_of_lt_of_le l2 bo6.size
  have bl6 : Below w.heap.size w w6 := bl5.trans (bo6.mono bl5.size)
  clear c1_0_5 c1_1_5 c1_2_5 c1_3_5 l1_5 s1_5 c2_0 c2_1 c2_2 c2_3 l2 bl5 hb6 bo6 E5
  have E6 := hE.on (bl6)
  go_wp2_with fail
  refine (val_as HP1 (parse_any s hs9 _ E6)).mono ?_
  rintro e w7 ⟨rfl, hb7⟩
  have bo7 := hb7
  have c1_0_7 := keepc bo7 c1_0_6
  have c1_1_7 := keepc bo7 c1_1_6
  have c1_2_7 := keepc bo7 c1_2_6
  have c1_3_7 := keepc bo7 c1_3_6
  have l1_7 := Nat.lt_of_lt_of_le l1_6 bo7.size
  have s1_7 := s1_6.on bo7
  have c2_0_7 := keepc bo7 c2_0_6
  have c2_1_7 := keepc bo7 c2_1_6
  have c2_2_7 := keepc bo7 c2_2_6
  have c2_3_7 := keepc bo7 c2_3_6
  have l2_7 := Nat.lt_of_lt_of_le l2_6 bo7.size
  have bl7 : Below w.heap.size w w7 := bl6.trans (bo7.mono bl6.size)
  clear c1_0_6 c1_1_6 c1_2_6 c1_3_6 l1_6 s1_6 c2_0_6 c2_1_6 c2_2_6 c2_3_6 l2_6 bl6 hb7 bo7 E6
  go_wp2_with fail
  refine (samepre_yes f (hi : Int) (lo : Int) b _).mono ?_
  rintro e w8 ⟨rfl, hb8⟩
  have bo8 : Below w7.heap.size w7 w8 := ((Below.refl _ w7).alloc (Nat.le_refl _) _).trans (hb8.mono (by simp <;> omega))
  have c1_0_8 := keepc bo8 c1_0_7
  have c1_1_8 := keepc bo8 c1_1_7
  have c1_2_8 := keepc bo8 c1_2_7
  have c1_3_8 := keepc bo8 c1_3_7
  have l1_8 := Nat.lt_of_lt_of_le l1_7 bo8.size
  have s1_8 := s1_7.on bo8
  have c2_0_8 := keepc bo8 c2_0_7
  have c2_1_8 := keepc bo8 c2_1_7
  have c2_2_8 := keepc bo8 c2_2_7
  have c2_3_8 := keepc bo8 c2_3_7
  have l2_8 := Nat.lt_of_lt_of_le l2_7 bo8.size
  have c3_0 := keepc hb8 (b := w7.heap.size) (o := 0) (v := .int .i64 f) (by go_simp)
  have c3_1 := keepc hb8 (b := w7.heap.size) (o := 1) (v := .int .u64 hi) (by go_simp)
  have c3_2 := keepc hb8 (b := w7.heap.size) (o := 2) (v := .int .u64 lo) (by go_simp)
  have c3_3 := keepc hb8 (b := w7.heap.size) (o := 3) (v := .int .i64 b) (by go_simp)
  have l3 : w7.heap.size < w8.heap.size := by
    have := hb8.size
    try simp at this
    omega
  have bl8 : Below w.heap.size w w8 := bl7.trans (bo8.mono bl7.size)
  clear c1_0_7 c1_1_7 c1_2_7 c1_3_7 l1_7 s1_7 c2_0_7 c2_1_7 c2_2_7 c2_3_7 l2_7 bl7 hb8 bo8
  go_wp2_with fail
  refine (num_b 0 _).mono ?_
  rintro e w9 ⟨rfl, hb9⟩
  have bo9 := hb9
  have c1_0_9 := keepc bo9 c1_0_8
  have c1_1_9 := keepc bo9 c1_1_8
  have c1_2_9 := keepc bo9 c1_2_8
  have c1_3_9 := keepc bo9 c1_3_8
  have l1_9 := Nat.lt_of_lt_of_le l1_8 bo9.size
  have s1_9 := s1_8.on bo9
  have c2_0_9 := keepc bo9 c2_0_8
  have c2_1_9 := keepc bo9 c2_1_8
  have c2_2_9 := keepc bo9 c2_2_8
  have c2_3_9 := keepc bo9 c2_3_8
  have l2_9 := Nat.lt_of_lt_of_le l2_8 bo9.size
  have c3_0_9 := keepc bo9 c3_0
  have c3_1_9 := keepc bo9 c3_1
  have c3_2_9 := keepc bo9 c3_2
  have c3_3_9 := keepc bo9 c3_3
  have l3_9 := Nat.lt_of_lt_of_le l3 bo9.size
  have bl9 : Below w.heap.size w w9 := bl8.trans (bo9.mono bl8.size)
  clear c1_0_8 c1_1_8 c1_2_8 c1_3_8 l1_8 s1_8 c2_0_8 c2_1_8 c2_2_8 c2_3_8 l2_8 c3_0 c3_1 c3_2 c3_3 l3 bl8 hb9 bo9
  go_wp2_with fail
  refine (num_b 0 _).mono ?_
  rintro e w10 ⟨rfl, hb10⟩
  have bo10 := hb10
  have c1_0_10 := keepc bo10 c1_0_9
  have c1_1_10 := keepc bo10 c1_1_9
  have c1_2_10 := keepc bo10 c1_2_9
  have c1_3_10 := keepc bo10 c1_3_9
  have l1_10 := Nat.lt_of_lt_of_le l1_9 bo10.size
  have s1_10 := s1_9.on bo10
  have c2_0_10 := keepc bo10 c2_0_9
  have c2_1_10 := keepc bo10 c2_1_9
  have c2_2_10 := keepc bo10 c2_2_9
  have c2_3_10 := keepc bo10 c2_3_9
  have l2_10 := Nat.lt_of_lt_of_le l2_9 bo10.size
  have c3_0_10 := keepc bo10 c3_0_9
  have c3_1_10 := keepc bo10 c3_1_9
  have c3_2_10 := keepc bo10 c3_2_9
  have c3_3_10 := keepc bo10 c3_3_9
  have l3_10 := Nat.lt_of_lt_of_le l3_9 bo10.size
  have bl10 : Below w.heap.size w w10 := bl9.trans (bo10.mono bl9.size)
  clear c1_0_9 c1_1_9 c1_2_9 c1_3_9 l1_9 s1_9 c2_0_9 c2_1_9 c2_2_9 c2_3_9 l2_9 c3_0_9 c3_1_9 c3_2_9 c3_3_9 l3_9 bl9 hb10 bo10
  clear c1_0_10 c1_1_10 c1_2_10 c1_3_10 l1_10 c2_0_10 c2_1_10 c2_2_10 c2_3_10 l2_10 c3_0_10 c3_1_10 c3_2_10 c3_3_10 l3_10
  go_wp2_with fail
  refine (bytes_row hm A c _ (by omega) (hs.on bl10)).mono ?_
  rintro e w11 ⟨v9, rfl, hown9, hb11⟩
  have bo11 := hb11
  have bl11 : Below w.heap.size w w11 := bl10.trans (bo11.mono bl10.size)
  clear bl10 hb11 bo11
  go_wp2_with fail
  refine (get_own HG2 hm _ hown9).mono ?_
  rintro e w12 ⟨rfl, hb12⟩
  have bo12 := hb12
  have hown9_12 := own_on hown9 bo12
  have bl12 : Below w.heap.size w w12 := bl11.trans (bo12.mono bl11.size)
  clear hown9 bl11 hb12 bo12
  go_wp2_with fail
  refine (num_b 0 _).mono ?_
  rintro e w13 ⟨rfl, hb13⟩
  have bo13 : Below w12.heap.size w12 w13 := ((Below.refl _ w12).alloc (Nat.le_refl _) _).trans (hb13.mono (by simp <;> omega))
  have c4_0 := keepc hb13 (b := w12.heap.size) (o := 0) (v := .int .i64 f2) (by go_simp)
  have c4_1 := keepc hb13 (b := w12.heap.size) (o := 1) (v := .int .u64 (hi2 : Int)) (by go_simp)
  have c4_2 := keepc hb13 (b := w12.heap.size) (o := 2) (v := .int .u64 (lo2 : Int)) (by go_simp)
  have c4_3 := keepc hb13 (b := w12.heap.size) (o := 3) (v := .int .i64 b2) (by go_simp)
  have l4 : w12.heap.size < w13.heap.size := by
    have := hb13.size
    try simp at this
    omega
  have bl13 : Below w.heap.size w w13 := bl12.trans (bo13.mono bl12.size)
  clear bl12 hb13 bo13
  go_wp2_with fail
  refine (put_row HY HYN _ hh2 hl2).mono ?_
  rintro e w14 ⟨A5, k5, rfl, s5, hb14⟩
  have bo14 := hb14
  have c4_0_14 := keepc bo14 c4_0
  have c4_1_14 := keepc bo14 c4_1
  have c4_2_14 := keepc bo14 c4_2
  have c4_3_14 := keepc bo14 c4_3
  have l4_14 := Nat.lt_of_lt_of_le l4 bo14.size
  have bl14 : Below w.heap.size w w14 := bl13.trans (bo14.mono bl13.size)
  clear c4_0 c4_1 c4_2 c4_3 l4 bl13 hb14 bo14
  have i5 : n2 ≤ c := by omega
  have i6 : (n2 : Int) ≤ (m : Int) := by omega
  go_wp2_with fail
  refine (same_rowp HYN A5 A _ _ _ (by omega) s5 (by rw [HYT.out]; exact Shows.take (hs.on bl14) n2)).mono ?_
  rintro e w15 ⟨rfl, hb15⟩
  have bo15 := hb15
  have c4_0_15 := keepc bo15 c4_0_14
  have c4_1_15 := keepc bo15 c4_1_14
  have c4_2_15 := keepc bo15 c4_2_14
  have c4_3_15 := keepc bo15 c4_3_14
  have l4_15 := Nat.lt_of_lt_of_le l4_14 bo15.size
  have s5_15 := s5.on bo15
  have bl15 : Below w.heap.size w w15 := bl14.trans (bo15.mono bl14.size)
  clear c4_0_14 c4_1_14 c4_2_14 c4_3_14 l4_14 s5 bl14 hb15 bo15
  clear c4_0_15 c4_1_15 c4_2_15 c4_3_15 l4_15
  have E15 := hE.on (bl15)
  go_wp2_with fail
  refine (val_as HP3 (parse_any t ht _ E15)).mono ?_
  rintro e w16 ⟨rfl, hb16⟩
  have bo16 := hb16
  have bl16 : Below w.heap.size w w16 := bl15.trans (bo16.mono bl15.size)
  clear bl15 hb16 bo16 E15
  go_wp2_with fail
  refine (num_b e3 _).mono ?_
  rintro e w17 ⟨rfl, hb17⟩
  have bo17 : Below w16.heap.size w16 w17 := ((Below.refl _ w16).alloc (Nat.le_refl _) _).trans (hb17.mono (by simp <;> omega))
  have c5_0 := keepc hb17 (b := w16.heap.size) (o := 0) (v := .int .i64 f3) (by go_simp)
  have c5_1 := keepc hb17 (b := w16.heap.size) (o := 1) (v := .int .u64 x3) (by go_simp)
  have c5_2 := keepc hb17 (b := w16.heap.size) (o := 2) (v := .int .u64 y3) (by go_simp)
  have c5_3 := keepc hb17 (b := w16.heap.size) (o := 3) (v := .int .i64 b3) (by go_simp)
  have l5 : w16.heap.size < w17.heap.size := by
    have := hb17.size
    try simp at this
    omega
  have bl17 : Below w.heap.size w w17 := bl16.trans (bo17.mono bl16.size)
  clear bl16 hb17 bo17
  go_wp2
  go_ret
  exact ⟨rfl, bl17⟩

set_option maxRecDepth 20000 in
set_option maxHeartbeats 4000000 in
theorem back_111 (f : Int) (hi lo : Nat) (b : Int) (hh : hi < 18446744073709551616) (hl : lo < 18446744073709551616) (l : List UInt8) (A : Option Addr) (c m : Nat) (hm : Hid (l.length = m)) (hm9 : m ≤ 140737488355000) (hmc : m ≤ c) (t : List UInt8) (ht : t.length ≤ 140737488355328) (w : World) (hE : Env w) (hs : Shows cel w w.heap.size A l) (X : List UInt8) (n : Nat) (HX : Hid (pB f hi lo b = X)) (HN : Hid (X.length = n)) (hn0 : 0 < n) (hn9 : n ≤ 18) (HXL : Hid ((X ++ l).length = n + m)) (HG1 : Hid (ofG (gtP (X ++ l)) = .tuple #[.agg #[.int .i64 f, .int .u64 (hi : Int), .int .u64 (lo : Int), .int .i64 b], .int .i64 (n : Int), .int .i64 0])) (s : List UInt8) (HS : Hid (pT f hi lo b = s)) (hs9 : s.length ≤ 140737488355328) (HP1 : Hid (ofP (prsP s) = .tuple #[.agg #[.int .i64 f, .int .u64 (hi : Int), .int .u64 (lo : Int), .int .i64 b], .int .i64 0])) (f2 : Int) (hi2 lo2 : Nat) (b2 : Int) (n2 : Nat) (hh2 : hi2 < 18446744073709551616) (hl2 : lo2 < 18446744073709551616) (HG2 : Hid (ofG (gtP l) = .tuple #[.agg #[.int .i64 f2, .int .u64 (hi2 : Int), .int .u64 (lo2 : Int), .int .i64 b2], .int .i64 (n2 : Int), .int .i64 0])) (Y : List UInt8) (HY : Hid (pB f2 hi2 lo2 b2 = Y)) (HYN : Hid (Y.length = n2)) (hn2 : n2 ≤ m) (hn29 : n2 ≤ 18) (HYT : Hid (Y = l.take n2)) (f3 : Int) (hi3 lo3 : Nat) (b3 : Int) (hh3 : hi3 < 18446744073709551616) (hl3 : lo3 < 18446744073709551616) (HP3 : Hid (ofP (prsP t) = .tuple #[.agg #[.int .i64 f3, .int .u64 (hi3 : Int), .int .u64 (lo3 : Int), .int .i64 b3], .int .i64 0])) (HT3 : Hid (pT f3 hi3 lo3 b3 = t)) :
    Calls Tryd.prog 12 #[.agg #[.int .i64 f, .int .u64 hi, .int .u64 lo, .int .i64 b], .slice A m c, .string ⟨t.toArray⟩] w fun e w' => e = .returned (.bool true) ∧ Below w.heap.size w w' := by
  go_enter Tryd.func12, Tryd.ntmps12
  have E0 := hE.on ((Below.refl _ w).alloc (by exact Nat.le_refl _) (.cells #[.int .i64 f, .int .u64 hi, .int .u64 lo, .int .i64 b] 26))
  go_wp2_with fail
  refine (first_any _ E0).mono ?_
  rintro e w1 ⟨rfl, hb1⟩
  have bo1 : Below w.heap.size w w1 := ((Below.refl _ w).alloc (Nat.le_refl _) _).trans (hb1.mono (by simp <;> omega))
  have c1_0 := keepc hb1 (b := w.heap.size) (o := 0) (v := .int .i64 f) (by go_simp)
  have c1_1 := keepc hb1 (b := w.heap.size) (o := 1) (v := .int .u64 hi) (by go_simp)
  have c1_2 := keepc hb1 (b := w.heap.size) (o := 2) (v := .int .u64 lo) (by go_simp)
  have c1_3 := keepc hb1 (b := w.heap.size) (o := 3) (v := .int .i64 b) (by go_simp)
  have l1 : w.heap.size < w1.heap.size := by
    have := hb1.size
    try simp at this
    omega
  have bl1 : Below w.heap.size w w1 := (Below.refl _ _).trans (bo1.mono (Nat.le_refl _))
  clear hb1 bo1 E0
  go_wp2_with fail
  refine (put_row HX HN _ hh hl).mono ?_
  rintro e w2 ⟨A1, k1, rfl, s1, hb2⟩
  have bo2 := hb2
  have c1_0_2 := keepc bo2 c1_0
  have c1_1_2 := keepc bo2 c1_1
  have c1_2_2 := keepc bo2 c1_2
  have c1_3_2 := keepc bo2 c1_3
  have l1_2 := Nat.lt_of_lt_of_le l1 bo2.size
  have bl2 : Below w.heap.size w w2 := bl1.trans (bo2.mono bl1.size)
  clear c1_0 c1_1 c1_2 c1_3 l1 bl1 hb2 bo2
  go_wp2_with fail
  refine (bytes_row HN A1 k1 _ (by omega) s1).mono ?_
  rintro e w3x ⟨v3, rfl, hown3, hb3x⟩
  have hsx := (hs.below (bl2.trans (hb3x.mono bl2.size))).more (Nat.le_trans bl2.size hb3x.size)
  go_wp2_with (at_builtin; refine wpList_append_bytes w2.heap.size _ rfl _ _ rfl _ X l A n m c rfl rfl hm.out hown3 hsx hb3x.size (by omega) ?_)
  intro v3' w3 hown3' hgrow3
  rw [← List.map_append] at hown3'
  have hb3 : Below w2.heap.size w2 w3 := hb3x.grown hgrow3 hb3x.size (fun j hj => (hown3.lt j hj).1)
  clear hb3x hgrow3 hsx hown3
  have bo3 := hb3
  have c1_0_3 := keepc bo3 c1_0_2
  have c1_1_3 := keepc bo3 c1_1_2
  have c1_2_3 := keepc bo3 c1_2_2
  have c1_3_3 := keepc bo3 c1_3_2
  have l1_3 := Nat.lt_of_lt_of_le l1_2 bo3.size
  have s1_3 := s1.on bo3
  have bl3 : Below w.heap.size w w3 := bl2.trans (bo3.mono bl2.size)
  clear c1_0_2 c1_1_2 c1_2_2 c1_3_2 l1_2 s1 bl2 hb3 bo3
  go_wp2_with fail
  refine (get_own HG1 HXL _ hown3').mono ?_
  rintro e w4 ⟨rfl, hb4⟩
  have bo4 := hb4
  have c1_0_4 := keepc bo4 c1_0_3
  have c1_1_4 := keepc bo4 c1_1_3
  have c1_2_4 := keepc bo4 c1_2_3
  have c1_3_4 := keepc bo4 c1_3_3
  have l1_4 := Nat.lt_of_lt_of_le l1_3 bo4.size
  have s1_4 := s1_3.on bo4
  have bl4 : Below w.heap.size w w4 := bl3.trans (bo4.mono bl3.size)
  clear c1_0_3 c1_1_3 c1_2_3 c1_3_3 l1_3 s1_3 bl3 hb4 bo4 hown3'
  go_wp2_with fail
  refine (samepre_yes f (hi : Int) (lo : Int) b _).mono ?_
  rintro e w5 ⟨rfl, hb5⟩
  have bo5 : Below w4.heap.size w4 w5 := ((Below.refl _ w4).alloc (Nat.le_refl _) _).trans (hb5.mono (by simp <;> omega))
  have c1_0_5 := keepc bo5 c1_0_4
  have c1_1_5 := keepc bo5 c1_1_4
  have c1_2_5 := keepc bo5 c1_2_4
  have c1_3_5 := keepc bo5 c1_3_4
  have l1_5 := Nat.lt_of_lt_of_le l1_4 bo5.size
  have s1_5 := s1_4.on bo5
  have c2_0 := keepc hb5 (b := w4.heap.size) (o := 0) (v := .int .i64 f) (by go_simp)
  have c2_1 := keepc hb5 (b := w4.heap.size) (o := 1) (v := .int .u64 hi) (by go_simp)
  have c2_2 := keepc hb5 (b := w4.heap.size) (o := 2) (v := .int .u64 lo) (by go_simp)
  have c2_3 := keepc hb5 (b := w4.heap.size) (o := 3) (v := .int .i64 b) (by go_simp)
  have l2 : w4.heap.size < w5.heap.size := by
    have := hb5.size
    try simp at this
    omega
  have bl5 : Below w.heap.size w w5 := bl4.trans (bo5.mono bl4.size)
  clear c1_0_4 c1_1_4 c1_2_4 c1_3_4 l1_4 s1_4 bl4 hb5 bo5
  have E5 := hE.on (bl5)
  go_wp2_with fail
  refine (print_as HS _ E5 hh hl).mono ?_
  rintro e w6 ⟨rfl, hb6⟩
  have bo6 := hb6
  have c1_0_6 := keepc bo6 c1_0_5
  have c1_1_6 := keepc bo6 c1_1_5
  have c1_2_6 := keepc bo6 c1_2_5
  have c1_3_6 := keepc bo6 c1_3_5
  have l1_6 := Nat.lt_of_lt_of_le l1_5 bo6.size
  have s1_6 := s1_5.on bo6
  have c2_0_6 := keepc bo6 c2_0
  have c2_1_6 := keepc bo6 c2_1
  have c2_2_6 := keepc bo6 c2_2
  have c2_3_6 := keepc bo6 c2_3
  have l2_6 := Nat.lt_of_lt_of_le l2 bo6.size
  have bl6 : Below w.heap.size w w6 := bl5.trans (bo6.mono bl5.size)
  clear c1_0_5 c1_1_5 c1_2_5 c1_3_5 l1_5 s1_5 c2_0 c2_1 c2_2 c2_3 l2 bl5 hb6 bo6 E5
  have E6 := hE.on (bl6)
  go_wp2_with fail
  refine (val_as HP1 (parse_any s hs9 _ E6)).mono ?_
  rintro e w7 ⟨rfl, hb7⟩
  have bo7 := hb7
  have c1_0_7 := keepc bo7 c1_0_6
  have c1_1_7 := keepc bo7 c1_1_6
  have c1_2_7 := keepc bo7 c1_2_6
  have c1_3_7 := keepc bo7 c1_3_6
  have l1_7 := Nat.lt_of_lt_of_le l1_6 bo7.size
  have s1_7 := s1_6.on bo7
  have c2_0_7 := keepc bo7 c2_0_6
  have c2_1_7 := keepc bo7 c2_1_6
  have c2_2_7 := keepc bo7 c2_2_6
  have c2_3_7 := keepc bo7 c2_3_6
  have l2_7 := Nat.lt_of_lt_of_le l2_6 bo7.size
  have bl7 : Below w.heap.size w w7 := bl6.trans (bo7.mono bl6.size)
  clear c1_0_6 c1_1_6 c1_2_6 c1_3_6 l1_6 s1_6 c2_0_6 c2_1_6 c2_2_6 c2_3_6 l2_6 bl6 hb7 bo7 E6
  go_wp2_with fail
  refine (samepre_yes f (hi : Int) (lo : Int) b _).mono ?_
  rintro e w8 ⟨rfl, hb8⟩
  have bo8 : Below w7.heap.size w7 w8 := ((Below.refl _ w7).alloc (Nat.le_refl _) _).trans (hb8.mono (by simp <;> omega))
  have c1_0_8 := keepc bo8 c1_0_7
  have c1_1_8 := keepc bo8 c1_1_7
  have c1_2_8 := keepc bo8 c1_2_7
  have c1_3_8 := keepc bo8 c1_3_7
  have l1_8 := Nat.lt_of_lt_of_le l1_7 bo8.size
  have s1_8 := s1_7.on bo8
  have c2_0_8 := keepc bo8 c2_0_7
  have c2_1_8 := keepc bo8 c2_1_7
  have c2_2_8 := keepc bo8 c2_2_7
  have c2_3_8 := keepc bo8 c2_3_7
  have l2_8 := Nat.lt_of_lt_of_le l2_7 bo8.size
  have c3_0 := keepc hb8 (b := w7.heap.size) (o := 0) (v := .int .i64 f) (by go_simp)
  have c3_1 := keepc hb8 (b := w7.heap.size) (o := 1) (v := .int .u64 hi) (by go_simp)
  have c3_2 := keepc hb8 (b := w7.heap.size) (o := 2) (v := .int .u64 lo) (by go_simp)
  have c3_3 := keepc hb8 (b := w7.heap.size) (o := 3) (v := .int .i64 b) (by go_simp)
  have l3 : w7.heap.size < w8.heap.size := by
    have := hb8.size
    try simp at this
    omega
  have bl8 : Below w.heap.size w w8 := bl7.trans (bo8.mono bl7.size)
  clear c1_0_7 c1_1_7 c1_2_7 c1_3_7 l1_7 s1_7 c2_0_7 c2_1_7 c2_2_7 c2_3_7 l2_7 bl7 hb8 bo8
  go_wp2_with fail
  refine (num_b 0 _).mono ?_
  rintro e w9 ⟨rfl, hb9⟩
  have bo9 := hb9
  have c1_0_9 := keepc bo9 c1_0_8
  have c1_1_9 := keepc bo9 c1_1_8
  have c1_2_9 := keepc bo9 c1_2_8
  have c1_3_9 := keepc bo9 c1_3_8
  have l1_9 := Nat.lt_of_lt_of_le l1_8 bo9.size
  have s1_9 := s1_8.on bo9
  have c2_0_9 := keepc bo9 c2_0_8
  have c2_1_9 := keepc bo9 c2_1_8
  have c2_2_9 := keepc bo9 c2_2_8
  have c2_3_9 := keepc bo9 c2_3_8
  have l2_9 := Nat.lt_of_lt_of_le l2_8 bo9.size
  have c3_0_9 := keepc bo9 c3_0
  have c3_1_9 := keepc bo9 c3_1
  have c3_2_9 := keepc bo9 c3_2
  have c3_3_9 := keepc bo9 c3_3
  have l3_9 := Nat.lt_of_lt_of_le l3 bo9.size
  have bl9 : Below w.heap.size w w9 := bl8.trans (bo9.mono bl8.size)
  clear c1_0_8 c1_1_8 c1_2_8 c1_3_8 l1_8 s1_8 c2_0_8 c2_1_8 c2_2_8 c2_3_8 l2_8 c3_0 c3_1 c3_2 c3_3 l3 bl8 hb9 bo9
  go_wp2_with fail
  refine (num_b 0 _).mono ?_
  rintro e w10 ⟨rfl, hb10⟩
  have bo10 := hb10
  have c1_0_10 := keepc bo10 c1_0_9
  have c1_1_10 := keepc bo10 c1_1_9
  have c1_2_10 := keepc bo10 c1_2_9
  have c1_3_10 := keepc bo10 c1_3_9
  have l1_10 := Nat.lt_of_lt_of_le l1_9 bo10.size
  have s1_10 := s1_9.on bo10
  have c2_0_10 := keepc bo10 c2_0_9
  have c2_1_10 := keepc bo10 c2_1_9
  have c2_2_10 := keepc bo10 c2_2_9
  have c2_3_10 := keepc bo10 c2_3_9
  have l2_10 := Nat.lt_of_lt_of_le l2_9 bo10.size
  have c3_0_10 := keepc bo10 c3_0_9
  have c3_1_10 := keepc bo10 c3_1_9
  have c3_2_10 := keepc bo10 c3_2_9
  have c3_3_10 := keepc bo10 c3_3_9
  have l3_10 := Nat.lt_of_lt_of_le l3_9 bo10.size
  have bl10 : Below w.heap.size w w10 := bl9.trans (bo10.mono bl9.size)
  clear c1_0_9 c1_1_9 c1_2_9 c1_3_9 l1_9 s1_9 c2_0_9 c2_1_9 c2_2_9 c2_3_9 l2_9 c3_0_9 c3_1_9 c3_2_9 c3_3_9 l3_9 bl9 hb10 bo10
  clear c1_0_10 c1_1_10 c1_2_10 c1_3_10 l1_10 c2_0_10 c2_1_10 c2_2_10 c2_3_10 l2_10 c3_0_10 c3_1_10 c3_2_10 c3_3_10 l3_10
  go_wp2_with fail
  refine (bytes_row hm A c _ (by omega) (hs.on bl10)).mono ?_
  rintro e w11 ⟨v9, rfl, hown9, hb11⟩
  have bo11 := hb11
  have bl11 : Below w.heap.size w w11 := bl10.trans (bo11.mono bl10.size)
  clear bl10 hb11 bo11
  go_wp2_with fail
  refine (get_own HG2 hm _ hown9).mono ?_
  rintro e w12 ⟨rfl, hb12⟩
  have bo12 := hb12
  have hown9_12 := own_on hown9 bo12
  have bl12 : Below w.heap.size w w12 := bl11.trans (bo12.mono bl11.size)
  clear hown9 bl11 hb12 bo12
  go_wp2_with fail
  refine (num_b 0 _).mono ?_
  rintro e w13 ⟨rfl, hb13⟩
  have bo13 : Below w12.heap.size w12 w13 := ((Below.refl _ w12).alloc (Nat.le_refl _) _).trans (hb13.mono (by simp <;> omega))
  have c4_0 := keepc hb13 (b := w12.heap.size) (o := 0) (v := .int .i64 f2) (by go_simp)
  have c4_1 := keepc hb13 (b := w12.heap.size) (o := 1) (v := .int .u64 (hi2 : Int)) (by go_simp)
  have c4_2 := keepc hb13 (b := w12.heap.size) (o := 2) (v := .int .u64 (lo2 : Int)) (by go_simp)
  have c4_3 := keepc hb13 (b := w12.heap.size) (o := 3) (v := .int .i64 b2) (by go_simp)
  have l4 : w12.heap.size < w13.heap.size := by
    have := hb13.size
    try simp at this
    omega
  have bl13 : Below w.heap.size w w13 := bl12.trans (bo13.mono bl12.size)
  clear bl12 hb13 bo13
  go_wp2_with fail
  refine (put_row HY HYN _ hh2 hl2).mono ?_
  rintro e w14 ⟨A5, k5, rfl, s5, hb14⟩
  have bo14 := hb14
  have c4_0_14 := keepc bo14 c4_0
  have c4_1_14 := keepc bo14 c4_1
  have c4_2_14 := keepc bo14 c4_2
  have c4_3_14 := keepc bo14 c4_3
  have l4_14 := Nat.lt_of_lt_of_le l4 bo14.size
  have bl14 : Below w.heap.size w w14 := bl13.trans (bo14.mono bl13.size)
  clear c4_0 c4_1 c4_2 c4_3 l4 bl13 hb14 bo14
  have i5 : n2 ≤ c := by omega
  have i6 : (n2 : Int) ≤ (m : Int) := by omega
  go_wp2_with fail
  refine (same_rowp HYN A5 A _ _ _ (by omega) s5 (by rw [HYT.out]; exact Shows.take (hs.on bl14) n2)).mono ?_
  rintro e w15 ⟨rfl, hb15⟩
  have bo15 := hb15
  have c4_0_15 := keepc bo15 c4_0_14
  have c4_1_15 := keepc bo15 c4_1_14
  have c4_2_15 := keepc bo15 c4_2_14
  have c4_3_15 := keepc bo15 c4_3_14
  have l4_15 := Nat.lt_of_lt_of_le l4_14 bo15.size
  have s5_15 := s5.on bo15
  have bl15 : Below w.heap.size w w15 := bl14.trans (bo15.mono bl14.size)
  clear c4_0_14 c4_1_14 c4_2_14 c4_3_14 l4_14 s5 bl14 hb15 bo15
  clear c4_0_15 c4_1_15 c4_2_15 c4_3_15 l4_15
  have E15 := hE.on (bl15)
  go_wp2_with fail
  refine (val_as HP3 (parse_any t ht _ E15)).mono ?_
  rintro e w16 ⟨rfl, hb16⟩
  have bo16 := hb16
  have bl16 : Below w.heap.size w w16 := bl15.trans (bo16.mono bl15.size)
  clear bl15 hb16 bo16 E15
  go_wp2_with fail
  refine (num_b 0 _).mono ?_
  rintro e w17 ⟨rfl, hb17⟩
  have bo17 : Below w16.heap.size w16 w17 := ((Below.refl _ w16).alloc (Nat.le_refl _) _).trans (hb17.mono (by simp <;> omega))
  have c5_0 := keepc hb17 (b := w16.heap.size) (o := 0) (v := .int .i64 f3) (by go_simp)
  have c5_1 := keepc hb17 (b := w16.heap.size) (o := 1) (v := .int .u64 (hi3 : Int)) (by go_simp)
  have c5_2 := keepc hb17 (b := w16.heap.size) (o := 2) (v := .int .u64 (lo3 : Int)) (by go_simp)
  have c5_3 := keepc hb17 (b := w16.heap.size) (o := 3) (v := .int .i64 b3) (by go_simp)
  have l5 : w16.heap.size < w17.heap.size := by
    have := hb17.size
    try simp at this
    omega
  have bl17 : Below w.heap.size w w17 := bl16.trans (bo17.mono bl16.size)
  clear bl16 hb17 bo17
  have E17 := hE.on (bl17)
  go_wp2_with fail
  refine (print_as HT3 _ E17 hh3 hl3).mono ?_
  rintro e w18 ⟨rfl, hb18⟩
  have bo18 := hb18
  have c5_0_18 := keepc bo18 c5_0
  have c5_1_18 := keepc bo18 c5_1
  have c5_2_18 := keepc bo18 c5_2
  have c5_3_18 := keepc bo18 c5_3
  have l5_18 := Nat.lt_of_lt_of_le l5 bo18.size
  have bl18 : Below w.heap.size w w18 := bl17.trans (bo18.mono bl17.size)
  clear c5_0 c5_1 c5_2 c5_3 l5 bl17 hb18 bo18 E17
  go_wp2
  go_ret
  exact ⟨rfl, bl18⟩

theorem ofG_none (e : Value) (h : ofG none = e) : ∃ f x y b n e2 : Int, e2 ≠ 0 ∧ e = .tuple #[.agg #[.int .i64 f, .int .u64 x, .int .u64 y, .int .i64 b], .int .i64 n, .int .i64 e2] := ⟨0, 0, 0, 0, 0, 70, by decide, h.symm⟩
theorem prefixBack_law (f : Int) (hi lo : Nat) (b : Int) (hh : hi < 18446744073709551616) (hl : lo < 18446744073709551616) (l : List UInt8) (A : Option Addr) (c : Nat) (hm9 : l.length ≤ 140737488355000) (hmc : l.length ≤ c) (t : ByteArray) (ht : t.size ≤ 140737488355328) (w : World) (hE : Env w) (hs : Shows cel w w.heap.size A l) :
    Calls Tryd.prog 12 #[.agg #[.int .i64 f, .int .u64 hi, .int .u64 lo, .int .i64 b], .slice A l.length c, .string t] w fun e w' => e = .returned (.bool true) ∧ Below w.heap.size w w' := by
  obtain ⟨t, rfl⟩ : ∃ t' : List UInt8, t = ⟨t'.toArray⟩ := ⟨t.data.toList, by simp⟩
  have hP3 : (∃ f3 x3 y3 b3 e3 : Int, e3 ≠ 0 ∧ ofP (prsP t) = .tuple #[.agg #[.int .i64 f3, .int .u64 x3, .int .u64 y3, .int .i64 b3], .int .i64 e3]) ∨
      ∃ (f3 : Int) (hi3 lo3 : Nat) (b3 : Int), hi3 < 18446744073709551616 ∧ lo3 < 18446744073709551616 ∧ ofP (prsP t) = .tuple #[.agg #[.int .i64 f3, .int .u64 (hi3 : Int), .int .u64 (lo3 : Int), .int .i64 b3], .int .i64 0] ∧ pT f3 hi3 lo3 b3 = t := by
    cases hp : prsP t with
    | none => exact .inl ⟨0, 0, 0, 0, 70, by decide, rfl⟩
    | some q =>
      obtain ⟨f3, N, b3⟩ := q
      obtain ⟨hk, hpr⟩ := prsP_some hp
      have hkA := ((okP_iff _ _ _).1 hk).1
      obtain ⟨s1, s2⟩ := okA_small hkA
      exact .inr ⟨f3, _, _, b3, s1, s2, rfl, (pT_of hkA b3).trans hpr⟩
  have hG2 : (∃ f2 x2 y2 b2 n2 e2 : Int, e2 ≠ 0 ∧ ofG (gtP l) = .tuple #[.agg #[.int .i64 f2, .int .u64 x2, .int .u64 y2, .int .i64 b2], .int .i64 n2, .int .i64 e2]) ∨
      ∃ (f2 : Int) (hi2 lo2 : Nat) (b2 : Int) (n2 : Nat), hi2 < 18446744073709551616 ∧ lo2 < 18446744073709551616 ∧ ofG (gtP l) = .tuple #[.agg #[.int .i64 f2, .int .u64 (hi2 : Int), .int .u64 (lo2 : Int), .int .i64 b2], .int .i64 (n2 : Int), .int .i64 0] ∧ (pB f2 hi2 lo2 b2).length = n2 ∧ n2 ≤ l.length ∧ pB f2 hi2 lo2 b2 = l.take n2 := by
    cases hg : gtP l with
    | none => exact .inl ⟨0, 0, 0, 0, 0, 70, by decide, rfl⟩
    | some q =>
      obtain ⟨f2, hi2, lo2, b2, n2⟩ := q
      obtain ⟨-, h1, h2, h3, h4, h5⟩ := gtP_some hg
      exact .inr ⟨f2, hi2, lo2, b2, n2, h1, h2, rfl, h3.symm, h4, h5⟩
  cases hv : vP f hi lo b with
  | false =>
    have h0 : (pB f hi lo b).length = 0 := by rw [pB_no hv]; rfl
    rcases hG2 with ⟨f2, x2, y2, b2, n2, e2, he2, hg⟩ | ⟨f2, hi2, lo2, b2, n2, h1, h2, hg, h3, h4, h5⟩
    · rcases hP3 with ⟨f3, x3, y3, b3, e3, he3, hp⟩ | ⟨f3, hi3, lo3, b3, q1, q2, hp, hpt⟩
      · exact back_000 f hi lo b hh hl l A c _ (Lib.hid rfl) hm9 hmc t ht w hE hs _ _ (Lib.hid rfl) (Lib.hid rfl) h0 f2 x2 y2 b2 n2 e2 he2 (Lib.hid hg) f3 x3 y3 b3 e3 he3 (Lib.hid hp)
      · exact back_001 f hi lo b hh hl l A c _ (Lib.hid rfl) hm9 hmc t ht w hE hs _ _ (Lib.hid rfl) (Lib.hid rfl) h0 f2 x2 y2 b2 n2 e2 he2 (Lib.hid hg) f3 hi3 lo3 b3 q1 q2 (Lib.hid hp) (Lib.hid hpt)
    · have h9 : n2 ≤ 18 := by rw [← h3]; exact pB_len _ _ _ _
      rcases hP3 with ⟨f3, x3, y3, b3, e3, he3, hp⟩ | ⟨f3, hi3, lo3, b3, q1, q2, hp, hpt⟩
      · exact back_010 f hi lo b hh hl l A c _ (Lib.hid rfl) hm9 hmc t ht w hE hs _ _ (Lib.hid rfl) (Lib.hid rfl) h0 f2 hi2 lo2 b2 n2 h1 h2 (Lib.hid hg) _ (Lib.hid rfl) (Lib.hid h3) h4 h9 (Lib.hid h5) f3 x3 y3 b3 e3 he3 (Lib.hid hp)
      · exact back_011 f hi lo b hh hl l A c _ (Lib.hid rfl) hm9 hmc t ht w hE hs _ _ (Lib.hid rfl) (Lib.hid rfl) h0 f2 hi2 lo2 b2 n2 h1 h2 (Lib.hid hg) _ (Lib.hid rfl) (Lib.hid h3) h4 h9 (Lib.hid h5) f3 hi3 lo3 b3 q1 q2 (Lib.hid hp) (Lib.hid hpt)
  | true =>
    have h0 : 0 < (pB f hi lo b).length := by rw [pB_yes hv]; simp
    have h09 := pB_len f hi lo b
    have hG1 : ofG (gtP (pB f hi lo b ++ l)) = .tuple #[.agg #[.int .i64 f, .int .u64 (hi : Int), .int .u64 (lo : Int), .int .i64 b], .int .i64 ((pB f hi lo b).length : Int), .int .i64 0] := by rw [gtP_put hv hh hl]; rfl
    have hS9 : (pT f hi lo b).length ≤ 140737488355328 := by have := pT_len f hi lo b; omega
    have hP1 := prsP_pT hv hh hl
    have hXL : (pB f hi lo b ++ l).length = (pB f hi lo b).length + l.length := List.length_append
    rcases hG2 with ⟨f2, x2, y2, b2, n2, e2, he2, hg⟩ | ⟨f2, hi2, lo2, b2, n2, h1, h2, hg, h3, h4, h5⟩
    · rcases hP3 with ⟨f3, x3, y3, b3, e3, he3, hp⟩ | ⟨f3, hi3, lo3, b3, q1, q2, hp, hpt⟩
      · exact back_100 f hi lo b hh hl l A c _ (Lib.hid rfl) hm9 hmc t ht w hE hs _ _ (Lib.hid rfl) (Lib.hid rfl) h0 h09 (Lib.hid hXL) (Lib.hid hG1) _ (Lib.hid rfl) hS9 (Lib.hid hP1) f2 x2 y2 b2 n2 e2 he2 (Lib.hid hg) f3 x3 y3 b3 e3 he3 (Lib.hid hp)
      · exact back_101 f hi lo b hh hl l A c _ (Lib.hid rfl) hm9 hmc t ht w hE hs _ _ (Lib.hid rfl) (Lib.hid rfl) h0 h09 (Lib.hid hXL) (Lib.hid hG1) _ (Lib.hid rfl) hS9 (Lib.hid hP1) f2 x2 y2 b2 n2 e2 he2 (Lib.hid hg) f3 hi3 lo3 b3 q1 q2 (Lib.hid hp) (Lib.hid hpt)
    · have h9 : n2 ≤ 18 := by rw [← h3]; exact pB_len _ _ _ _
      rcases hP3 with ⟨f3, x3, y3, b3, e3, he3, hp⟩ | ⟨f3, hi3, lo3, b3, q1, q2, hp, hpt⟩
      · exact back_110 f hi lo b hh hl l A c _ (Lib.hid rfl) hm9 hmc t ht w hE hs _ _ (Lib.hid rfl) (Lib.hid rfl) h0 h09 (Lib.hid hXL) (Lib.hid hG1) _ (Lib.hid rfl) hS9 (Lib.hid hP1) f2 hi2 lo2 b2 n2 h1 h2 (Lib.hid hg) _ (Lib.hid rfl) (Lib.hid h3) h4 h9 (Lib.hid h5) f3 x3 y3 b3 e3 he3 (Lib.hid hp)
      · exact back_111 f hi lo b hh hl l A c _ (Lib.hid rfl) hm9 hmc t ht w hE hs _ _ (Lib.hid rfl) (Lib.hid rfl) h0 h09 (Lib.hid hXL) (Lib.hid hG1) _ (Lib.hid rfl) hS9 (Lib.hid hP1) f2 hi2 lo2 b2 n2 h1 h2 (Lib.hid hg) _ (Lib.hid rfl) (Lib.hid h3) h4 h9 (Lib.hid h5) f3 hi3 lo3 b3 q1 q2 (Lib.hid hp) (Lib.hid hpt)

end Go.Proofs.YtnodiejfhkjliaaDoor.Pf

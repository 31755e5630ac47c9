/- Contract: an address's bytes, by the reference. -/
import Derived.Test.YtpkmekdpmkfcdaaGreatDoorMC
namespace Go.Proofs.YtpkmekdpmkfcdaaGreatDoor.Pf
open Go.RowKit Go.Proofs.YtpkmekdpmkfcdaaGreatDoor.Wd Go.Proofs.YtpkmekdpmkfcdaaGreatDoor.Px Go.Proofs.YtpkmekdpmkfcdaaGreatDoor.By

theorem dgs_get (b : Nat) : ∀ (k n i : Nat) (h : i < (dgs b k n).length), (dgs b k n)[i] = n / b ^ (k - 1 - i) % b
  | 0, n, i, h => by simp [dgs] at h
  | k + 1, n, i, h => by
    have hl : (dgs b k (n / b)).length = k := dgs_len b k _
    have hi : i < k + 1 := by rw [dgs_len] at h; exact h
    simp only [dgs]
    by_cases hik : i < k
    · rw [List.getElem_append_left (by rw [hl]; exact hik), dgs_get b k (n / b) i (by rw [hl]; exact hik), Nat.div_div_eq_div_mul, ← Nat.pow_succ']
      congr 3
      omega
    · obtain rfl : i = k := by omega
      rw [List.getElem_append_right (by rw [hl]; exact Nat.le_refl _)]
      simp [hl]
theorem be_get (k n i : Nat) (h : i < (be k n).length) : (be k n)[i] = UInt8.ofNat (n / 256 ^ (k - 1 - i) % 256) := by
  have h2 : i < (dgs 256 k n).length := by rw [be_len] at h; rw [dgs_len]; exact h
  simp only [be, List.getElem_map]
  rw [dgs_get 256 k n i h2]
theorem ofB_two (l m : List UInt8) : ofB (l ++ m) = ofB l * 256 ^ m.length + ofB m := by
  induction m using snoc_ind with
  | h0 => simp [ofB, ofD]
  | h1 m d ih => rw [← List.append_assoc, ofB_snoc, ih, ofB_snoc, List.length_append, List.length_singleton, Nat.pow_succ, Nat.add_mul, Nat.mul_assoc]; omega
theorem paB_be {f : Int} {hi lo : Nat} (h : vA f hi lo = true) (hh : hi < 18446744073709551616) (hl : lo < 18446744073709551616) : paB f hi lo = be (wid f / 8) (num f hi lo) := by
  rcases (vA_iff f hi lo).1 h with rfl | ⟨rfl, rfl, hlo⟩
  · have e : paB 6 hi lo = be 8 hi ++ be 8 lo := paB_6 hi lo
    have e2 := be_ofB (be 8 hi ++ be 8 lo)
    rw [ofB_two, be_len, ofB_be 8 hi (by omega), ofB_be 8 lo (by omega), List.length_append, be_len, be_len] at e2
    rw [e, ← e2]
    rfl
  · rw [paB_4 hlo]
    rfl
theorem bit_step (N j k : Nat) : N / 2 ^ j % 2 ^ (k + 1) = 2 * (N / 2 ^ (j + 1) % 2 ^ k) + (if N.testBit j = true then 1 else 0) := by
  rw [Nat.pow_succ 2 k, Nat.mul_comm (2 ^ k) 2, Nat.mod_mul, Nat.div_div_eq_div_mul, ← Nat.pow_succ]
  rw [Nat.testBit_eq_decide_div_mod_eq]
  have : N / 2 ^ j % 2 < 2 := Nat.mod_lt _ (by omega)
  split <;> simp_all <;> omega

theorem byte_eq {K N m X : Nat} (hm : m < K) (h : m < (be K N).length) (hX : X = N / 2 ^ (8 * K - (8 * m + 8)) % 2 ^ 8) : cel (be K N)[m] = .int .u8 (X : Int) := by
  have e : (256 : Nat) ^ (K - 1 - m) = 2 ^ (8 * K - (8 * m + 8)) := by
    rw [show (256 : Nat) = 2 ^ 8 from rfl, ← Nat.pow_mul]
    congr 1
    omega
  rw [be_get K N m h, e, hX]
  exact cel_nat _ (Nat.mod_lt _ (by omega))
theorem rbit_at {f : Int} {hi lo : Nat} {i : Nat} {j : Int} {v : Bool} (hj : Hid (j = (i : Int))) (h : Hid (bitAt f hi lo i = v)) (w : World) (hh : hi < 18446744073709551616) (hl : lo < 18446744073709551616) (hv : vA f hi lo = true) (hi2 : i < wid f) :
    Calls Tryz.prog 239 #[.agg #[.int .i64 f, .int .u64 hi, .int .u64 lo], .int .i64 j] w fun e w' => e = .returned (.bool v) ∧ Below w.heap.size w w' := by
  have := rbit_any f hi lo i w hh hl hv hi2
  rwa [h.out, ← hj.out] at this

/-- the world of PutAddr: the bytes so far, the address -/
structure RP (w : World) (f : Int) (hi lo : Nat) (l : List UInt8) (v : Value) (m : Nat) (W : World) : Prop where
  own : W.ownsRow (w.heap.size + 1) 5 1 v m ((l.map cel).take m)
  c0 : W.cell? ⟨w.heap.size, 0, none⟩ = some (.int .i64 f)
  c1 : W.cell? ⟨w.heap.size, 1, none⟩ = some (.int .u64 hi)
  c2 : W.cell? ⟨w.heap.size, 2, none⟩ = some (.int .u64 lo)
  bl : Below w.heap.size w W
theorem RP.on {w W W' : World} {f : Int} {hi lo : Nat} {l : List UInt8} {v : Value} {m : Nat} (h : RP w f hi lo l v m W) (hb : Below W.heap.size W W') : RP w f hi lo l v m W' :=
  ⟨own_on h.own hb, keepc hb h.c0, keepc hb h.c1, keepc hb h.c2, h.bl.trans (hb.mono h.bl.size)⟩

theorem RP.grow {w W W' : World} {f : Int} {hi lo : Nat} {l : List UInt8} {v v' : Value} {m : Nat} (h : RP w f hi lo l v m W) (o : Obj) (hown : W'.ownsRow (w.heap.size + 1) 5 1 v' (m + 1) ((l.map cel).take (m + 1)))
    (hg : (W.alloc o).grownBy W' v.ownBlock) : RP w f hi lo l v' (m + 1) W' := by
  have hb := h.bl.alloc h.bl.size o
  have hlt : w.heap.size < (W.alloc o).heap.size := by have := World.block_lt_of_cell? W _ h.c0; simp at this ⊢; omega
  have hne : some w.heap.size ≠ v.ownBlock := fun e => by have := (h.own.lt _ e.symm).1; omega
  have far : ∀ q, W'.cell? ⟨w.heap.size, q, none⟩ = (W.alloc o).cell? ⟨w.heap.size, q, none⟩ := fun q => hg.cell_far ⟨w.heap.size, q, none⟩ hlt hne
  exact ⟨hown, (far 0).trans (keepc (one _ _) h.c0), (far 1).trans (keepc (one _ _) h.c1), (far 2).trans (keepc (one _ _) h.c2), hb.grown hg hb.size (fun j hj => Nat.le_trans (Nat.le_succ _) (h.own.lt j hj).1)⟩
theorem rputaddr_no (f : Int) (hi lo : Nat) (w : World) (HV : Hid (vA f hi lo = false)) :
    Calls Tryz.prog 240 #[.agg #[.int .i64 f, .int .u64 hi, .int .u64 lo]] w fun e w' => e = .returned (.slice none 0 0) ∧ Below w.heap.size w w' := by
  have hbl := one w (.cells #[.int .i64 f, .int .u64 hi, .int .u64 lo] 88)
  go_enter Tryz.func240, Tryz.ntmps240
  go_wp2_with fail
  refine (rvaddr_any f hi lo _).mono ?_
  rintro e w1 ⟨rfl, hb1⟩
  rw [HV.out]
  have hbl1 := hbl.trans (hb1.mono hbl.size)
  clear hbl hb1
  go_wp2
  go_ret
  exact ⟨rfl, hbl1⟩

set_option maxRecDepth 20000 in
set_option maxHeartbeats 1000000 in
theorem rputaddr_yes (f : Int) (hi lo K n : Nat) (w : World) (hh : hi < 18446744073709551616) (hl : lo < 18446744073709551616) (HV : Hid (vA f hi lo = true)) (HW : Hid (wid f = n)) (hn : n = 8 * K) (hn2 : n ≤ 128) :
    Calls Tryz.prog 240 #[.agg #[.int .i64 f, .int .u64 hi, .int .u64 lo]] w fun e w' => ∃ v, e = .returned v ∧ w'.ownsRow w.heap.size 5 1 v K ((be K (num f hi lo)).map cel) ∧ Below w.heap.size w w' := by
  obtain ⟨i0, hi0, hz0, hz1, hz2⟩ := info_parts Tryz.infoB
  have hll : (be K (num f hi lo)).length = K := be_len _ _
  have hp : RP w f hi lo (be K (num f hi lo)) (.slice none 0 0) 0 (w.alloc (.cells #[.int .i64 f, .int .u64 hi, .int .u64 lo] 88)) := ⟨World.ownsRow_nil _ _ _ _, by go_simp, by go_simp, by go_simp, one _ _⟩
  have hN : ∀ i, bitAt f hi lo i = (num f hi lo).testBit (n - 1 - i) := fun i => by unfold bitAt; rw [HW.out]
  obtain ⟨N, hNe⟩ : ∃ N, num f hi lo = N := ⟨_, rfl⟩
  rw [hNe] at hp hll hN ⊢
  obtain ⟨l, hle⟩ : ∃ l, be K N = l := ⟨_, rfl⟩
  have HBE : Hid (∀ (m X : Nat) (_ : m < K) (h : m < l.length), X = N / 2 ^ (n - (8 * m + 8)) % 2 ^ 8 → cel l[m] = .int .u8 (X : Int)) := Lib.hid fun m X hm h hX => by
    subst hle
    exact byte_eq hm h (by rw [hX, hn])
  rw [hle] at hp hll ⊢
  have HN := Lib.hid hN
  have hK16 : K ≤ 16 := by omega
  have HNK := Lib.hid hn
  clear hNe hle hN hn
  go_enter Tryz.func240, Tryz.ntmps240
  go_wp2_with fail
  refine (rvaddr_any f hi lo _).mono ?_
  rintro e w1 ⟨rfl, hb1⟩
  rw [HV.out]
  have hp1 := hp.on hb1
  clear hp hb1
  go_wp2_with fail
  go_loopw [4, 5] (fun v i wr => ∃ m p : Nat, m ≤ K ∧ Hid (p = 8 * m) ∧ i = .int .i64 (p : Int) ∧ RP w f hi lo l v m wr) (fun _ i _ => n - (intOf i).toNat)
  case atStart => exact ⟨0, 0, Nat.zero_le _, Lib.hid rfl, rfl, hp1⟩
  case round =>
    obtain ⟨m, p, hm, HPM, rfl, hR⟩ := hrel
    clear hp1
    have hR2 := hR
    obtain ⟨-, e0, e1, e2, -⟩ := hR2
    go_wp2_with fail
    refine (rbits_any f _).mono ?_
    rintro e w2 ⟨rfl, rfl⟩
    rw [HW.out]
    by_cases hlt : m < K
    · have hp8 : p + 8 ≤ n := by have := HPM.out; have := HNK.out; omega
      have i1 : (p : Int) < (n : Int) := by omega
      clear e0 e1 e2
      go_wp2
      go_loopw [6, 7] (fun x k wi => ∃ q X : Nat, q ≤ 8 ∧ k = .int .i64 (q : Int) ∧ x = .int .i64 (X : Int) ∧ X < 2 ^ q ∧ Hid (X = N / 2 ^ (n - (p + q)) % 2 ^ q) ∧ RP w f hi lo l u4 m wi) (fun _ k _ => 8 - (intOf k).toNat)
      case atStart => exact ⟨0, 0, Nat.zero_le _, rfl, rfl, Nat.one_pos, Lib.hid (Nat.mod_one _).symm, hR⟩
      case round =>
        obtain ⟨q, X, hq, rfl, rfl, hX, HX, hS⟩ := hrel
        clear hR
        by_cases hq8 : q < 8
        · have i2 : (q : Int) < 8 := by omega
          have hX2 : X < 128 := Nat.lt_of_lt_of_le hX (show 2 ^ q ≤ 2 ^ 7 from Nat.pow_le_pow_right (by omega) (by omega))
          have hbt := HN.out (p + q)
          have hbs := bit_step N (n - (p + (q + 1))) q
          rw [show n - (p + (q + 1)) + 1 = n - (p + q) by omega, ← HX.out, show n - (p + (q + 1)) = n - 1 - (p + q) by omega, ← hbt] at hbs
          have hw2 : p + q < wid f := by rw [HW.out]; omega
          have HJ : Hid ((p : Int) + (q : Int) = ((p + q : Nat) : Int)) := Lib.hid (by simp)
          have hS2 := hS
          obtain ⟨-, e0, e1, e2, -⟩ := hS2
          have hpw : 2 ^ (q + 1) = 2 * 2 ^ q := by rw [Nat.pow_succ]; omega
          cases hv : bitAt f hi lo (p + q) with
          | true =>
            have HB := Lib.hid hv
            rw [hv, if_pos rfl] at hbs
            have HX2 : Hid (2 * X + 1 = N / 2 ^ (n - (p + (q + 1))) % 2 ^ (q + 1)) := Lib.hid (by rw [show n - (p + (q + 1)) = n - 1 - (p + q) by omega]; exact hbs.symm)
            have hX3 : 2 * X + 1 < 2 ^ (q + 1) := by omega
            have HX3 := Lib.hid hX3
            clear hv hbs hbt hpw hX hX3
            go_wp2_with fail
            refine (rbit_at HJ HB _ hh hl HV.out hw2).mono ?_
            rintro e w5 ⟨rfl, hb5⟩
            have hS5 := hS.on hb5
            clear hS hb5 e0 e1 e2
            go_wp2
            go_roundw
            case rel => exact ⟨q + 1, 2 * X + 1, by omega, by go_num, by go_num, HX3.out, HX2, hS5⟩
            case measure => simp [intOf]; omega
          | false =>
            have HB := Lib.hid hv
            rw [hv, if_neg (by simp), Nat.add_zero] at hbs
            have HX2 : Hid (2 * X = N / 2 ^ (n - (p + (q + 1))) % 2 ^ (q + 1)) := Lib.hid (by rw [show n - (p + (q + 1)) = n - 1 - (p + q) by omega]; exact hbs.symm)
            have hX3 : 2 * X < 2 ^ (q + 1) := by omega
            have HX3 := Lib.hid hX3
            clear hv hbs hbt hpw hX hX3
            go_wp2_with fail
            refine (rbit_at HJ HB _ hh hl HV.out hw2).mono ?_
            rintro e w5 ⟨rfl, hb5⟩
            have hS5 := hS.on hb5
            clear hS hb5 e0 e1 e2
            go_wp2
            go_roundw
            case rel => exact ⟨q + 1, 2 * X, by omega, by go_num, by go_num, HX3.out, HX2, hS5⟩
            case measure => simp [intOf]; omega
        · obtain rfl : q = 8 := by omega
          have i2 : ¬ ((8 : Nat) : Int) < 8 := by omega
          have hX2 : X < 256 := hX
          have hml : m < l.length := by omega
          have hce := HBE.out m X hlt hml (by rw [HX.out, HPM.out])
          have hsn := take_map cel l m hml
          rw [hce] at hsn
          have HSN := Lib.hid hsn
          clear hsn hce hX
          have hwx : IntKind.u8.wrap (X : Int) = X := by rw [IntKind.wrap_u8]; omega
          have hlt4 := Nat.le_trans hS.bl.size (Nat.le_refl _)
          go_wp2_with (at_builtin; go_loud (refine wpList_append_own _ rfl _ _ 85 rfl (w.heap.size + 1) 5 i0 (.int .u8 0) 1 1 Tryz.underlying85 hi0 hz0 hz1 hz2 rfl (by decide) _ _ _ rfl (hS.own.alloc _) ⟨wr.heap.size, 0, none⟩ 1 1 [.int .u8 X] rfl rfl (cell_one_new _ _ _) ?c2 ?c3 ?c4 ?c5 ?_))
          case c2 => first
            | rfl
            | (intro u hu; simp at hu; subst hu; rfl)
          case c3 => unfold maxLen; omega
          case c4 => omega
          try (case c5 => have := World.block_lt_of_cell? wr _ hS.c0; simp at this ⊢; omega)
          intro v' w7 hown' hgrow _
          go_wp2
          have hRn : RP w f hi lo l v' (m + 1) w7 := RP.grow hS _ (by rw [HSN.out]; exact hown') hgrow
          go_roundw
          case rel => exact ⟨m + 1, p + 8, by omega, Lib.hid (by rw [HPM.out]; omega), by go_num, hRn⟩
          case measure => simp [intOf]; omega
    · obtain rfl : m = K := by omega
      have i1 : ¬ (p : Int) < (n : Int) := by have := HPM.out; have := HNK.out; omega
      clear e0 e1 e2
      go_wp2
      go_ret
      exact ⟨_, rfl, by have := hR.own; rw [List.take_of_length_le (by simp [hll])] at this; exact own_base this (by omega), hR.bl⟩

theorem rputaddr_any (f : Int) (hi lo : Nat) (w : World) (hh : hi < 18446744073709551616) (hl : lo < 18446744073709551616) :
    Calls Tryz.prog 240 #[.agg #[.int .i64 f, .int .u64 hi, .int .u64 lo]] w fun e w' => ∃ v, e = .returned v ∧ w'.ownsRow w.heap.size 5 1 v (paB f hi lo).length ((paB f hi lo).map cel) ∧ Below w.heap.size w w' := by
  cases hv : vA f hi lo with
  | false =>
    rw [paB_no hv]
    refine (rputaddr_no f hi lo w (Lib.hid hv)).mono ?_
    rintro e w' ⟨rfl, hb⟩
    exact ⟨_, rfl, World.ownsRow_nil _ _ _ _, hb⟩
  | true =>
    have h8 : wid f = 8 * (wid f / 8) := by rcases (vA_iff f hi lo).1 hv with rfl | ⟨rfl, -, -⟩ <;> rfl
    rw [paB_be hv hh hl, be_len]
    exact rputaddr_yes f hi lo (wid f / 8) (wid f) w hh hl (Lib.hid hv) (Lib.hid rfl) h8 (wid_le f)

end Go.Proofs.YtpkmekdpmkfcdaaGreatDoor.Pf

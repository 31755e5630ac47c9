/- Contracts: an address's and a prefix's text, by the reference. -/
import Derived.Test.YtnodiejfhkjliaaDoorRPrA
import Derived.Test.YtnodiejfhkjliaaDoorRPutB
namespace Go.Proofs.YtnodiejfhkjliaaDoor.Pf
open Go.RowKit Go.Proofs.YtnodiejfhkjliaaDoor.Wd Go.Proofs.YtnodiejfhkjliaaDoor.Px Go.Proofs.YtnodiejfhkjliaaDoor.By Go.Proofs.YtnodiejfhkjliaaDoor.En Go.Proofs.YtnodiejfhkjliaaDoor.Pl

theorem tx4_join : ∀ (bs : List UInt8), bs.length = 4 → tx4 bs 4 = join 46 (decs bs)
  | [a, b, c, d], _ => by simp [tx4, decs, join]
theorem tx16_join : ∀ (bs : List UInt8), bs.length = 16 → tx16 bs 16 = join 58 (hexs bs)
  | [a, b, c, d, e, f, g, h, i, j, k, l, m, n, o, p], _ => by simp [tx16, hexs, join, ← hx_pair]

set_option maxRecDepth 20000 in
set_option maxHeartbeats 2000000 in
theorem rprintaddr_0 (f : Int) (hi lo : Nat) (w : World) (HV : Hid (vA f hi lo = false)) :
    Calls Tryd.prog 26 #[.agg #[.int .i64 f, .int .u64 hi, .int .u64 lo]] w fun e w' => e = .returned (strc []) ∧ Below w.heap.size w w' := by
  have hbl := one w (.cells #[.int .i64 f, .int .u64 hi, .int .u64 lo] 24)
  go_enter Tryd.func26, Tryd.ntmps26
  go_wp2_with fail
  refine (rputaddr_no f hi lo _ HV).mono ?_
  rintro e w1 ⟨rfl, hb1⟩
  have hbl1 := hbl.trans (hb1.mono hbl.size)
  clear hbl hb1
  go_wp2
  go_loopw [4, 5] (fun s i wr => i = .int .i64 0 ∧ s = .string ⟨#[]⟩ ∧ wr = w1) (fun _ _ _ => 0)
  case atStart => exact ⟨rfl, rfl, rfl⟩
  case round =>
    obtain ⟨rfl, rfl, rfl⟩ := hrel
    go_wp2
    go_ret
    exact ⟨rfl, hbl1⟩

theorem rprintaddr_any (f : Int) (hi lo : Nat) (w : World) (hE : Env w) (hh : hi < 18446744073709551616) (hl : lo < 18446744073709551616) :
    Calls Tryd.prog 26 #[.agg #[.int .i64 f, .int .u64 hi, .int .u64 lo]] w fun e w' => e = .returned (strc (prT f hi lo)) ∧ Below w.heap.size w w' := by
  cases hv : vA f hi lo with
  | false => rw [prT_no hv]; exact rprintaddr_0 f hi lo w (Lib.hid hv)
  | true =>
    rcases (vA_iff f hi lo).1 hv with rfl | ⟨rfl, rfl, h3⟩
    · have hlen : (paB 6 hi lo).length = 16 := by rw [paB_6, List.length_append, be_len, be_len]
      rw [← prT_hex (by omega) hh hl, ← tx16_join _ hlen]
      exact rprintaddr_16 6 hi lo w hh hl (Lib.hid hlen)
    · have hlen : (paB 4 0 lo).length = 4 := by rw [paB_4 h3, be_len]
      rw [← prT_dec, ← tx4_join _ hlen]
      exact rprintaddr_4 4 0 lo w hE hh hl (Lib.hid hlen)
theorem rprintaddr_as {f : Int} {hi lo : Nat} {t : List UInt8} (h : Hid (prT f hi lo = t)) (w : World) (hE : Env w) (hh : hi < 18446744073709551616) (hl : lo < 18446744073709551616) :
    Calls Tryd.prog 26 #[.agg #[.int .i64 f, .int .u64 hi, .int .u64 lo]] w fun e w' => e = .returned (.string ⟨t.toArray⟩) ∧ Below w.heap.size w w' := by
  have := rprintaddr_any f hi lo w hE hh hl
  rwa [h.out] at this
theorem rprint_no (f : Int) (hi lo : Nat) (b : Int) (w : World) (hh : hi < 18446744073709551616) (hl : lo < 18446744073709551616) (HP : Hid (vP f hi lo b = false)) :
    Calls Tryd.prog 28 #[.agg #[.int .i64 f, .int .u64 hi, .int .u64 lo, .int .i64 b]] w fun e w' => e = .returned (.string ⟨#[]⟩) ∧ Below w.heap.size w w' := by
  have hbl := one w (.cells #[.int .i64 f, .int .u64 hi, .int .u64 lo, .int .i64 b] 26)
  go_enter Tryd.func28, Tryd.ntmps28
  go_wp2_with fail
  refine (rvalid_as HP _ hh hl).mono ?_
  rintro e w1 ⟨rfl, hb1⟩
  have hbl1 := hbl.trans (hb1.mono hbl.size)
  clear hbl hb1
  go_wp2
  go_ret
  exact ⟨rfl, hbl1⟩

set_option maxRecDepth 20000 in
set_option maxHeartbeats 2000000 in
theorem rprint_yes (f : Int) (hi lo b : Nat) (w : World) (hE : Env w) (hh : hi < 18446744073709551616) (hl : lo < 18446744073709551616) (hb : b ≤ 128) (HP : Hid (vP f hi lo b = true)) (t u : List UInt8) (HT : Hid (prT f hi lo = t)) (HU : Hid (Lib.decDigits (b : Int).toNat = u)) (ht : t.length ≤ 39) (hu : u.length ≤ 3) :
    Calls Tryd.prog 28 #[.agg #[.int .i64 f, .int .u64 hi, .int .u64 lo, .int .i64 b]] w fun e w' => e = .returned (.string ⟨(t ++ 47 :: u).toArray⟩) ∧ Below w.heap.size w w' := by
  have hp := pb_new w f hi lo b 26
  have hbl := one w (.cells #[.int .i64 f, .int .u64 hi, .int .u64 lo, .int .i64 b] 26)
  go_enter Tryd.func28, Tryd.ntmps28
  go_wp2_with fail
  refine (rvalid_as HP _ hh hl).mono ?_
  rintro e w1 ⟨rfl, hb1⟩
  have hbl1 := hbl.trans (hb1.mono hbl.size)
  have hp1 := hp.on hb1
  have hE1 := hE.on hbl1
  clear hbl hp hb1
  have e0 := after_cell hp1.c0
  have e1 := after_cell hp1.c1
  have e2 := after_cell hp1.c2
  have e3 := after_cell hp1.c3
  clear hp1
  have hb0 : (0 : Int) ≤ (b : Int) := by omega
  have hb9 : (b : Int) ≤ 9223372036854775807 := by omega
  go_upto_region 4 with fail
  refine wp_region_after (by kernel_rfl) (by kernel_rfl) ?_
  repeat (go_big_quiet_step ((first
    | (go_at_call 26; exact after_of (rprintaddr_as HT _ (hE1.on (After.b _)) hh hl))
    | (go_at_call 48; exact after_of (itoa_as HU _ (hE1.on (After.b _)) hb0 hb9)))))
  refine wpQuiet_nil ?_
  rintro _ ⟨x, rfl⟩
  have hx := x.b
  clear e0 e1 e2 e3
  go_wp2
  go_ret
  refine ⟨ret_str ?_, hbl1.trans (hx.mono hbl1.size)⟩
  simp only [str_cat, List.append_assoc, List.cons_append, List.nil_append]

theorem rprint_any (f : Int) (hi lo : Nat) (b : Int) (w : World) (hE : Env w) (hh : hi < 18446744073709551616) (hl : lo < 18446744073709551616) :
    Calls Tryd.prog 28 #[.agg #[.int .i64 f, .int .u64 hi, .int .u64 lo, .int .i64 b]] w fun e w' => e = .returned (strc (pT f hi lo b)) ∧ Below w.heap.size w w' := by
  cases hv : vP f hi lo b with
  | false => rw [pT_no hv]; exact rprint_no f hi lo b w hh hl (Lib.hid hv)
  | true =>
    obtain ⟨hvA, hb0, hbw, -⟩ := (vP_iff f hi lo b).1 hv
    obtain ⟨c, rfl⟩ : ∃ c : Nat, b = c := ⟨b.toNat, by omega⟩
    have hw := wid_le f
    rw [pT_yes hv]
    exact rprint_yes f hi lo c w hE hh hl (by omega) (Lib.hid hv) _ _ (Lib.hid rfl) (Lib.hid rfl) (prT_len f hi lo) (decDigits_len_le 3 _ (by omega) (by omega))

end Go.Proofs.YtnodiejfhkjliaaDoor.Pf

/- Contract: a prefix's text, by the program. -/
import Derived.Test.YtnodiejfhkjliaaDoorPrefQ
namespace Go.Proofs.YtnodiejfhkjliaaDoor.Pf
open Go.RowKit Go.Proofs.YtnodiejfhkjliaaDoor.Wd Go.Proofs.YtnodiejfhkjliaaDoor.Px Go.Proofs.YtnodiejfhkjliaaDoor.By Go.Proofs.YtnodiejfhkjliaaDoor.En Go.Proofs.YtnodiejfhkjliaaDoor.Pl

theorem str_cat (a b : List UInt8) : (⟨a.toArray⟩ : ByteArray) ++ ⟨b.toArray⟩ = ⟨(a ++ b).toArray⟩ := by
  apply ByteArray.ext
  rw [ByteArray.data_append]
  simp
theorem ret_str {a b : ByteArray} (h : a = b) : Ending.returned (.string a) = .returned (.string b) := by rw [h]

/-- a prefix's text -/
def pT (f : Int) (hi lo : Nat) (b : Int) : List UInt8 := if vP f hi lo b = true then prT f hi lo ++ 47 :: Lib.decDigits b.toNat else []
theorem pT_yes {f : Int} {hi lo : Nat} {b : Int} (h : vP f hi lo b = true) : pT f hi lo b = prT f hi lo ++ 47 :: Lib.decDigits b.toNat := by unfold pT; rw [if_pos h]
theorem pT_no {f : Int} {hi lo : Nat} {b : Int} (h : vP f hi lo b = false) : pT f hi lo b = [] := by unfold pT; rw [if_neg (by simp [h])]

theorem print_no (f : Int) (hi lo : Nat) (b : Int) (w : World) (hh : hi < 18446744073709551616) (hl : lo < 18446744073709551616) (HP : Hid (vP f hi lo b = false)) :
    Calls Tryd.prog 27 #[.agg #[.int .i64 f, .int .u64 hi, .int .u64 lo, .int .i64 b]] w fun e w' => e = .returned (.string ⟨#[]⟩) ∧ Below w.heap.size w w' := by
  have hbl := one w (.cells #[.int .i64 f, .int .u64 hi, .int .u64 lo, .int .i64 b] 26)
  go_enter Tryd.func27, Tryd.ntmps27
  go_wp2_with fail
  refine (vvalid_as HP _ hh hl).mono ?_
  rintro e w1 ⟨rfl, hb1⟩
  have hbl1 := hbl.trans (hb1.mono hbl.size)
  clear hbl hb1
  go_wp2
  go_ret
  exact ⟨rfl, hbl1⟩

theorem printaddr_as {f : Int} {hi lo : Nat} {t : List UInt8} (h : Hid (prT f hi lo = t)) (w : World) (hE : Env w) (hh : hi < 18446744073709551616) (hl : lo < 18446744073709551616) :
    Calls Tryd.prog 25 #[.agg #[.int .i64 f, .int .u64 hi, .int .u64 lo]] w fun e w' => e = .returned (.string ⟨t.toArray⟩) ∧ Below w.heap.size w w' := by
  have := printaddr_any f hi lo w hE hh hl
  rwa [h.out] at this
theorem itoa_as {n : Int} {t : List UInt8} (h : Hid (Lib.decDigits n.toNat = t)) (w : World) (hE : Env w) (h0 : 0 ≤ n) (h1 : n ≤ 9223372036854775807) :
    Calls Tryd.prog 48 #[.int .i64 n] w fun e w' => e = .returned (.string ⟨t.toArray⟩) ∧ Below w.heap.size w w' := by
  have := itoa_any n w h0 h1 hE
  rwa [h.out] at this

set_option maxRecDepth 20000 in
set_option maxHeartbeats 2000000 in
theorem print_yes (f : Int) (hi lo b : Nat) (w : World) (hE : Env w) (hh : hi < 18446744073709551616) (hl : lo < 18446744073709551616) (hb : b ≤ 128) (HP : Hid (vP f hi lo b = true)) (t u : List UInt8) (HT : Hid (prT f hi lo = t)) (HU : Hid (Lib.decDigits (b : Int).toNat = u)) (ht : t.length ≤ 39) (hu : u.length ≤ 3) :
    Calls Tryd.prog 27 #[.agg #[.int .i64 f, .int .u64 hi, .int .u64 lo, .int .i64 b]] w fun e w' => e = .returned (.string ⟨(t ++ 47 :: u).toArray⟩) ∧ Below w.heap.size w w' := by
  have hp := pb_new w f hi lo b 26
  have hbl := one w (.cells #[.int .i64 f, .int .u64 hi, .int .u64 lo, .int .i64 b] 26)
  go_enter Tryd.func27, Tryd.ntmps27
  go_wp2_with fail
  refine (vvalid_as HP _ hh hl).mono ?_
  rintro e w1 ⟨rfl, hb1⟩
  have hbl1 := hbl.trans (hb1.mono hbl.size)
  have hp1 := hp.on hb1
  have hE1 := hE.on hbl1
  clear hbl hp hb1
  have e0 := after_cell hp1.c0
  have e1 := after_cell hp1.c1
  have e2 := after_cell hp1.c2
  have e3 := after_cell hp1.c3
  clear hp1
  have hb0 : (0 : Int) ≤ (b : Int) := by omega
  have hb9 : (b : Int) ≤ 9223372036854775807 := by omega
  go_upto_region 3 with fail
  refine wp_region_after (by kernel_rfl) (by kernel_rfl) ?_
  repeat (go_big_quiet_step ((first
    | (go_at_call 25; exact after_of (printaddr_as HT _ (hE1.on (After.b _)) hh hl))
    | (go_at_call 48; exact after_of (itoa_as HU _ (hE1.on (After.b _)) hb0 hb9)))))
  refine wpQuiet_nil ?_
  rintro _ ⟨x, rfl⟩
  have hx := x.b
  clear e0 e1 e2 e3
  go_wp2
  go_ret
  refine ⟨ret_str ?_, hbl1.trans (hx.mono hbl1.size)⟩
  simp only [str_cat, List.append_assoc, List.cons_append, List.nil_append]

theorem print_any (f : Int) (hi lo : Nat) (b : Int) (w : World) (hE : Env w) (hh : hi < 18446744073709551616) (hl : lo < 18446744073709551616) :
    Calls Tryd.prog 27 #[.agg #[.int .i64 f, .int .u64 hi, .int .u64 lo, .int .i64 b]] w fun e w' => e = .returned (strc (pT f hi lo b)) ∧ Below w.heap.size w w' := by
  cases hv : vP f hi lo b with
  | false => rw [pT_no hv]; exact print_no f hi lo b w hh hl (Lib.hid hv)
  | true =>
    obtain ⟨hvA, hb0, hbw, -⟩ := (vP_iff f hi lo b).1 hv
    obtain ⟨c, rfl⟩ : ∃ c : Nat, b = c := ⟨b.toNat, by omega⟩
    have hw := wid_le f
    rw [pT_yes hv]
    exact print_yes f hi lo c w hE hh hl (by omega) (Lib.hid hv) _ _ (Lib.hid rfl) (Lib.hid rfl) (prT_len f hi lo) (decDigits_len_le 3 _ (by omega) (by omega))
theorem pT_len (f : Int) (hi lo : Nat) (b : Int) : (pT f hi lo b).length ≤ 43 := by
  unfold pT
  split
  · rename_i h
    obtain ⟨-, hb0, hbw, -⟩ := (vP_iff f hi lo b).1 h
    have hw := wid_le f
    have h1 := prT_len f hi lo
    have h2 := decDigits_len_le 3 b.toNat (by omega) (by omega)
    simp; omega
  · simp

end Go.Proofs.YtnodiejfhkjliaaDoor.Pf

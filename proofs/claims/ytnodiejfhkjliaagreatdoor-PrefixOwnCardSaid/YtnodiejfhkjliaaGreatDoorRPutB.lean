/- Contract: a prefix's bytes, by the reference. -/
import Derived.Test.YtnodiejfhkjliaaGreatDoorRPutA
namespace Go.Proofs.YtnodiejfhkjliaaGreatDoor.Pf
open Go.RowKit Go.Proofs.YtnodiejfhkjliaaGreatDoor.Wd Go.Proofs.YtnodiejfhkjliaaGreatDoor.Px Go.Proofs.YtnodiejfhkjliaaGreatDoor.By

theorem rvalid_as {f : Int} {hi lo : Nat} {b : Int} {X : Bool} (h : Hid (vP f hi lo b = X)) (w : World) (hh : hi < 18446744073709551616) (hl : lo < 18446744073709551616) :
    Calls Tryz.prog 23 #[.agg #[.int .i64 f, .int .u64 hi, .int .u64 lo, .int .i64 b]] w fun e w' => e = .returned (.bool X) ∧ Below w.heap.size w w' := by
  have := rvalid_any f hi lo b w hh hl
  rwa [h.out] at this
theorem rput_no (f : Int) (hi lo : Nat) (b : Int) (w : World) (hh : hi < 18446744073709551616) (hl : lo < 18446744073709551616) (HP : Hid (vP f hi lo b = false)) :
    Calls Tryz.prog 7 #[.agg #[.int .i64 f, .int .u64 hi, .int .u64 lo, .int .i64 b]] w fun e w' => e = .returned (.slice none 0 0) ∧ Below w.heap.size w w' := by
  have hbl := one w (.cells #[.int .i64 f, .int .u64 hi, .int .u64 lo, .int .i64 b] 50)
  go_enter Tryz.func7, Tryz.ntmps7
  go_wp2_with fail
  refine (rvalid_as HP _ hh hl).mono ?_
  rintro e w1 ⟨rfl, hb1⟩
  have hbl1 := hbl.trans (hb1.mono hbl.size)
  clear hbl hb1
  go_wp2
  go_ret
  exact ⟨rfl, hbl1⟩

set_option maxRecDepth 20000 in
set_option maxHeartbeats 1000000 in
theorem rput_yes (f : Int) (hi lo b n : Nat) (w : World) (hh : hi < 18446744073709551616) (hl : lo < 18446744073709551616) (HP : Hid (vP f hi lo b = true)) (hf : 0 ≤ f) (hf2 : f ≤ 255) (hb255 : b ≤ 255) (HL : Hid ((paB f hi lo).length = n)) (hn : 0 < n) (hn2 : n ≤ 16) :
    Calls Tryz.prog 7 #[.agg #[.int .i64 f, .int .u64 hi, .int .u64 lo, .int .i64 b]] w fun e w' => ∃ v, e = .returned v ∧ w'.ownsRow w.heap.size 5 1 v (2 + n) ([.int .u8 f, .int .u8 b] ++ (paB f hi lo).map cel) ∧ Below w.heap.size w w' := by
  obtain ⟨i0, hi0, hz0, hz1, hz2⟩ := info_parts Tryz.infoB
  have hp := pb_new w f hi lo b 50
  have hbl := one w (.cells #[.int .i64 f, .int .u64 hi, .int .u64 lo, .int .i64 b] 50)
  have hbI : (b : Int) ≤ 255 := by omega
  go_enter Tryz.func7, Tryz.ntmps7
  go_wp2_with fail
  refine (rvalid_as HP _ hh hl).mono ?_
  rintro e w1 ⟨rfl, hb1⟩
  have hbl1 := hbl.trans (hb1.mono hbl.size)
  have hp1 := hp.on hb1
  clear hbl hp hb1
  have hp2 := hp1
  obtain ⟨a0, a1, a2, a3⟩ := hp1
  go_wp2_with fail
  refine (rputaddr_any f hi lo _ hh hl).mono ?_
  rintro e w2 ⟨v2, rfl, hown2, hb2⟩
  rw [HL.out] at hown2
  have hp3 := hp2.on hb2
  have hbl2 := hbl1.trans (hb2.mono hbl1.size)
  obtain ⟨g2, k2, rfl, -, hg2⟩ := hown2.form hn
  clear a0 a1 a2 a3 hp2 hbl1 hb2
  obtain ⟨a0, a1, a2, a3⟩ := hp3
  have hlN : ((paB f hi lo).map cel).length = n * 1 := by rw [List.length_map, HL.out, Nat.mul_one]
  have HLN := Lib.hid hlN
  clear hlN
  have hwf : IntKind.u8.wrap f = f := by rw [IntKind.wrap_u8]; omega
  have hwb : IntKind.u8.wrap (b : Int) = b := by rw [IntKind.wrap_u8]; omega
  go_wp2_with (at_builtin; refine wpList_append_own _ rfl _ _ 44 rfl w.heap.size 5 i0 (.int .u8 0) 1 1 Tryz.underlying44 hi0 hz0 hz1 hz2 rfl (by decide) _ 2 [.int .u8 f, .int .u8 b] rfl (own2B hbl2.size) ⟨g2, 0, none⟩ n k2 ((paB f hi lo).map cel) rfl HLN.out ((hown2.alloc _).cells (g := g2) rfl) ?c2 ?c3 ?c4 ?c5 ?_)
  case c2 => exact cels_one _
  case c3 => unfold maxLen; omega
  case c4 => omega
  case c5 => have := hbl2.size; simp; omega
  intro v' w7 hown' hgrow _
  go_wp2
  go_ret
  exact ⟨_, rfl, hown', (hbl2.alloc hbl2.size _).grown hgrow (by have := hbl2.size; simp; omega) (fun j hj => by injection hj with hj; subst hj; exact hbl2.size)⟩

theorem rput_any (f : Int) (hi lo : Nat) (b : Int) (w : World) (hh : hi < 18446744073709551616) (hl : lo < 18446744073709551616) :
    Calls Tryz.prog 7 #[.agg #[.int .i64 f, .int .u64 hi, .int .u64 lo, .int .i64 b]] w fun e w' => ∃ v, e = .returned v ∧ w'.ownsRow w.heap.size 5 1 v (pB f hi lo b).length ((pB f hi lo b).map cel) ∧ Below w.heap.size w w' := by
  cases hv : vP f hi lo b with
  | false =>
    rw [pB_no hv]
    refine (rput_no f hi lo b w hh hl (Lib.hid hv)).mono ?_
    rintro e w' ⟨rfl, hb⟩
    exact ⟨_, rfl, World.ownsRow_nil _ _ _ _, hb⟩
  | true =>
    obtain ⟨hvA, hb0, hbw, -⟩ := (vP_iff f hi lo b).1 hv
    obtain ⟨c, rfl⟩ : ∃ c : Nat, b = c := ⟨b.toNat, by omega⟩
    have hw := wid_le f
    have hf : f = 6 ∨ f = 4 := by rcases (vA_iff f hi lo).1 hvA with h | ⟨h, -⟩ <;> simp [h]
    have hlen : 0 < (paB f hi lo).length := by
      rcases (vA_iff f hi lo).1 hvA with rfl | ⟨rfl, rfl, h3⟩
      · rw [paB_6, List.length_append, be_len]; omega
      · rw [paB_4 h3, be_len]; omega
    refine (rput_yes f hi lo c _ w hh hl (Lib.hid hv) (by omega) (by omega) (by omega) (Lib.hid rfl) hlen (paB_len f hi lo)).mono ?_
    rintro e w' ⟨v, rfl, hown, hb⟩
    refine ⟨v, rfl, ?_, hb⟩
    have hfN : ((f.toNat : Nat) : Int) = f := by omega
    rw [pB_yes hv, List.map_cons, List.map_cons, cel_nat _ (by omega), cel_nat _ (by omega), hfN, Int.toNat_natCast, List.length_cons, List.length_cons, show (paB f hi lo).length + 1 + 1 = 2 + (paB f hi lo).length by omega]
    exact hown

end Go.Proofs.YtnodiejfhkjliaaGreatDoor.Pf

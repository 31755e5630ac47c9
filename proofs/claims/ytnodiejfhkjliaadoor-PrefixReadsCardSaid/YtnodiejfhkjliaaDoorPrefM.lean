/- Contract: a prefix's bytes, by the program. -/
import Derived.Test.YtnodiejfhkjliaaDoorPrefL
import Derived.Deep.AppendLies
namespace Go.Proofs.YtnodiejfhkjliaaDoor.Pf
open Go.RowKit Go.Proofs.YtnodiejfhkjliaaDoor.Wd Go.Proofs.YtnodiejfhkjliaaDoor.Px Go.Proofs.YtnodiejfhkjliaaDoor.By

/-- a prefix's bytes -/
def pB (f : Int) (hi lo : Nat) (b : Int) : List UInt8 := if vP f hi lo b = true then UInt8.ofNat f.toNat :: UInt8.ofNat b.toNat :: paB f hi lo else []
theorem pB_no {f : Int} {hi lo : Nat} {b : Int} (h : vP f hi lo b = false) : pB f hi lo b = [] := by unfold pB; rw [if_neg (by simp [h])]
theorem pB_yes {f : Int} {hi lo : Nat} {b : Int} (h : vP f hi lo b = true) : pB f hi lo b = UInt8.ofNat f.toNat :: UInt8.ofNat b.toNat :: paB f hi lo := by unfold pB; rw [if_pos h]
theorem pB_len (f : Int) (hi lo : Nat) (b : Int) : (pB f hi lo b).length ≤ 18 := by
  unfold pB
  split
  · have := paB_len f hi lo; simp; omega
  · simp

theorem put_no (f : Int) (hi lo : Nat) (b : Int) (w : World) (hh : hi < 18446744073709551616) (hl : lo < 18446744073709551616) (HP : Hid (vP f hi lo b = false)) :
    Calls Tryd.prog 22 #[.agg #[.int .i64 f, .int .u64 hi, .int .u64 lo, .int .i64 b]] w fun e w' => e = .returned (.slice none 0 0) ∧ Below w.heap.size w w' := by
  have hbl := one w (.cells #[.int .i64 f, .int .u64 hi, .int .u64 lo, .int .i64 b] 26)
  go_enter Tryd.func22, Tryd.ntmps22
  go_wp2_with fail
  refine (vvalid_as HP _ hh hl).mono ?_
  rintro e w1 ⟨rfl, hb1⟩
  have hbl1 := hbl.trans (hb1.mono hbl.size)
  clear hbl hb1
  go_wp2
  go_ret
  exact ⟨rfl, hbl1⟩

theorem own2A {W w2 : World} {base : Nat} {a b : Value} (hb : Below (W.alloc (.cells #[a, b] 5)).drew.heap.size (W.alloc (.cells #[a, b] 5)).drew w2) (hB : base ≤ W.heap.size) : w2.ownsRow base 5 1 (.slice (some ⟨W.heap.size, 0, none⟩) 2 2) 2 [a, b] :=
  own_on (own_on (World.ownsRow_lit W #[a, b] 2 hB (by decide) rfl) (Below.refl _ _).drew) hb
theorem own2B {W : World} {base : Nat} {a b : Value} (hB : base ≤ W.heap.size) : (W.alloc (.cells #[a, b] 5)).ownsRow base 5 1 (.slice (some ⟨W.heap.size, 0, none⟩) 2 2) 2 [a, b] :=
  World.ownsRow_lit W #[a, b] 2 hB (by decide) rfl
theorem keepPa {w W : World} {B : Nat} {f : Int} {hi lo : Nat} {b : Int} (o : Obj) (h : W.cell? ⟨B, 0, none⟩ = some (.int .i64 f) ∧ W.cell? ⟨B, 1, none⟩ = some (.int .u64 hi) ∧ W.cell? ⟨B, 2, none⟩ = some (.int .u64 lo) ∧ W.cell? ⟨B, 3, none⟩ = some (.int .i64 b) ∧ Below w.heap.size w W) :
    (W.alloc o).cell? ⟨B, 0, none⟩ = some (.int .i64 f) ∧ (W.alloc o).cell? ⟨B, 1, none⟩ = some (.int .u64 hi) ∧ (W.alloc o).cell? ⟨B, 2, none⟩ = some (.int .u64 lo) ∧ (W.alloc o).cell? ⟨B, 3, none⟩ = some (.int .i64 b) ∧ Below w.heap.size w (W.alloc o) :=
  ⟨keepc (one _ _) h.1, keepc (one _ _) h.2.1, keepc (one _ _) h.2.2.1, keepc (one _ _) h.2.2.2.1, h.2.2.2.2.alloc h.2.2.2.2.size o⟩
theorem keepP {w W W' : World} {B : Nat} {f : Int} {hi lo : Nat} {b : Int} (h : W.cell? ⟨B, 0, none⟩ = some (.int .i64 f) ∧ W.cell? ⟨B, 1, none⟩ = some (.int .u64 hi) ∧ W.cell? ⟨B, 2, none⟩ = some (.int .u64 lo) ∧ W.cell? ⟨B, 3, none⟩ = some (.int .i64 b) ∧ Below w.heap.size w W) (hb : Below W.heap.size W W') :
    W'.cell? ⟨B, 0, none⟩ = some (.int .i64 f) ∧ W'.cell? ⟨B, 1, none⟩ = some (.int .u64 hi) ∧ W'.cell? ⟨B, 2, none⟩ = some (.int .u64 lo) ∧ W'.cell? ⟨B, 3, none⟩ = some (.int .i64 b) ∧ Below w.heap.size w W' :=
  ⟨keepc hb h.1, keepc hb h.2.1, keepc hb h.2.2.1, keepc hb h.2.2.2.1, h.2.2.2.2.trans (hb.mono h.2.2.2.2.size)⟩

theorem keepG {w W W' : World} {B k : Nat} {f : Int} {hi lo : Nat} {b : Int} {m c : Nat} (h : W.cell? ⟨B, 0, none⟩ = some (.int .i64 f) ∧ W.cell? ⟨B, 1, none⟩ = some (.int .u64 hi) ∧ W.cell? ⟨B, 2, none⟩ = some (.int .u64 lo) ∧ W.cell? ⟨B, 3, none⟩ = some (.int .i64 b) ∧ Below w.heap.size w W)
    (hg : W.grownBy W' (Value.slice (some ⟨k, 0, none⟩) m c).ownBlock) (hk : B < k) (hw : w.heap.size ≤ k) :
    W'.cell? ⟨B, 0, none⟩ = some (.int .i64 f) ∧ W'.cell? ⟨B, 1, none⟩ = some (.int .u64 hi) ∧ W'.cell? ⟨B, 2, none⟩ = some (.int .u64 lo) ∧ W'.cell? ⟨B, 3, none⟩ = some (.int .i64 b) ∧ Below w.heap.size w W' := by
  have hlt := World.block_lt_of_cell? W _ h.1
  have far : ∀ o, W'.cell? ⟨B, o, none⟩ = W.cell? ⟨B, o, none⟩ := fun o => hg.cell_far ⟨B, o, none⟩ hlt (by intro e; injection e with e; simp at e; omega)
  exact ⟨(far 0).trans h.1, (far 1).trans h.2.1, (far 2).trans h.2.2.1, (far 3).trans h.2.2.2.1, h.2.2.2.2.grown hg h.2.2.2.2.size (fun j hj => by injection hj with hj; simp at hj; omega)⟩
theorem cels_one (l : List UInt8) : ∀ u ∈ l.map cel, u.oneCell' = true := fun u hu => by
  obtain ⟨y, -, rfl⟩ := List.mem_map.1 hu
  rfl

set_option maxRecDepth 20000 in
set_option maxHeartbeats 2000000 in
theorem put_yes (f : Int) (hi lo b n : Nat) (w : World) (hh : hi < 18446744073709551616) (hl : lo < 18446744073709551616) (HP : Hid (vP f hi lo b = true)) (hf : 0 ≤ f) (hf2 : f ≤ 255) (hb255 : b ≤ 255) (HL : Hid ((paB f hi lo).length = n)) (hn : 0 < n) (hn2 : n ≤ 16) :
    Calls Tryd.prog 22 #[.agg #[.int .i64 f, .int .u64 hi, .int .u64 lo, .int .i64 b]] w fun e w' => ∃ v, e = .returned v ∧ w'.ownsRow w.heap.size 5 1 v (2 + n) ([.int .u8 f, .int .u8 b] ++ (paB f hi lo).map cel) ∧ Below w.heap.size w w' := by
  obtain ⟨i0, hi0, hz0, hz1, hz2⟩ := info_parts Tryd.infoB
  have hp := pb_new w f hi lo b 26
  have hbl := one w (.cells #[.int .i64 f, .int .u64 hi, .int .u64 lo, .int .i64 b] 26)
  have hbI : (b : Int) ≤ 255 := by omega
  go_enter Tryd.func22, Tryd.ntmps22
  go_wp2_with fail
  refine (vvalid_as HP _ hh hl).mono ?_
  rintro e w1 ⟨rfl, hb1⟩
  have hbl1 := (hbl.trans (hb1.mono hbl.size)).drew
  have hp1 := hp.on hb1.drew
  clear hbl hp hb1
  obtain ⟨a0, a1, a2, a3⟩ := hp1
  go_upto_region 3 with fail
  have hlt1 : w.heap.size < w1.drew.heap.size := World.block_lt_of_cell? w1.drew _ a0
  have hlN : ((paB f hi lo).map cel).length = n * 1 := by rw [List.length_map, HL.out, Nat.mul_one]
  have HLN := Lib.hid hlN
  clear hlN
  have hwf : IntKind.u8.wrap f = f := by rw [IntKind.wrap_u8]; omega
  have hwb : IntKind.u8.wrap (b : Int) = b := by rw [IntKind.wrap_u8]; omega
  go_region_held3 (fun W => W.cell? ⟨w.heap.size, 0, none⟩ = some (.int .i64 f) ∧ W.cell? ⟨w.heap.size, 1, none⟩ = some (.int .u64 hi) ∧ W.cell? ⟨w.heap.size, 2, none⟩ = some (.int .u64 lo) ∧ W.cell? ⟨w.heap.size, 3, none⟩ = some (.int .i64 b) ∧ Below w.heap.size w W)
    (first | exact ⟨a0, a1, a2, a3, hbl1⟩ | assumption | exact keepP (by assumption) (by assumption) | exact keepPa _ (by assumption) | exact keepG (by assumption) (by assumption) hlt1 (Nat.le_of_lt hlt1) | exact keepG (by assumption) (by assumption) (Nat.lt_of_lt_of_le hlt1 hb2.size) (Nat.le_of_lt (Nat.lt_of_lt_of_le hlt1 hb2.size)))
    (first
      | (go_at_call 20; ((refine (putaddr_any f hi lo _ hh hl).mono ?_); rintro e w2 ⟨v2, rfl, hown2, hb2⟩; rw [HL.out] at hown2; obtain ⟨g2, k2, rfl, -, hg2⟩ := hown2.form hn))
      | (refine step_append_lies _ (by rfl) (.tmp 13) (.tmp 16) 31 (by rfl) w.heap.size 5 i0 (.int .u8 0) 1 1 Tryd.underlying31 hi0 hz0 hz1 hz2 rfl (by decide) _ 2 [.int .u8 f, .int .u8 b] (by rfl) (own2A hb2 (Nat.le_of_lt hlt1)) _ n _ ((paB f hi lo).map cel) (by rfl) HLN.out (hown2.cells (g := g2) rfl) (cels_one _) hn (by unfold maxLen; omega) (by omega) (Nat.le_trans (Nat.le_of_lt hlt1) (Nat.le_trans (show w1.drew.heap.size ≤ (w1.alloc _).drew.heap.size by simp) hb2.size)) _ rfl ?_; intro g cap w4 hown4 hgrow4 hat4 hlt4)
      | (refine step_append_lies _ (by rfl) (.tmp 13) (.tmp 16) 31 (by rfl) w.heap.size 5 i0 (.int .u8 0) 1 1 Tryd.underlying31 hi0 hz0 hz1 hz2 rfl (by decide) _ 2 [.int .u8 f, .int .u8 b] (by rfl) (own2B (Nat.le_trans (Nat.le_of_lt hlt1) hb2.size)) _ n _ ((paB f hi lo).map cel) (by rfl) HLN.out ((hown2.alloc _).cells (g := g2) rfl) (cels_one _) hn (by unfold maxLen; omega) (by omega) (Nat.le_trans (Nat.le_of_lt hlt1) (Nat.le_trans hb2.size (by simp))) _ rfl ?_; intro g cap w4 hown4 hgrow4 hat4 hlt4))
  all_goals
    have hS : w4.cell? ⟨w.heap.size, 0, none⟩ = some (.int .i64 f) ∧ w4.cell? ⟨w.heap.size, 1, none⟩ = some (.int .u64 hi) ∧ w4.cell? ⟨w.heap.size, 2, none⟩ = some (.int .u64 lo) ∧ w4.cell? ⟨w.heap.size, 3, none⟩ = some (.int .i64 b) ∧ Below w.heap.size w w4 := by assumption
    clear hwf hwb hown2 hb2 hg2 hgrow4 hat4
    go_wp2
    go_ret
    exact ⟨_, rfl, hown4, hS.2.2.2.2⟩

theorem cel_nat (k : Nat) (h : k < 256) : cel (UInt8.ofNat k) = .int .u8 (k : Int) := celv k h
theorem put_any (f : Int) (hi lo : Nat) (b : Int) (w : World) (hh : hi < 18446744073709551616) (hl : lo < 18446744073709551616) :
    Calls Tryd.prog 22 #[.agg #[.int .i64 f, .int .u64 hi, .int .u64 lo, .int .i64 b]] w fun e w' => ∃ v, e = .returned v ∧ w'.ownsRow w.heap.size 5 1 v (pB f hi lo b).length ((pB f hi lo b).map cel) ∧ Below w.heap.size w w' := by
  cases hv : vP f hi lo b with
  | false =>
    rw [pB_no hv]
    refine (put_no f hi lo b w hh hl (Lib.hid hv)).mono ?_
    rintro e w' ⟨rfl, hb⟩
    exact ⟨_, rfl, World.ownsRow_nil _ _ _ _, hb⟩
  | true =>
    obtain ⟨hvA, hb0, hbw, -⟩ := (vP_iff f hi lo b).1 hv
    obtain ⟨c, rfl⟩ : ∃ c : Nat, b = c := ⟨b.toNat, by omega⟩
    have hw := wid_le f
    have hf : f = 6 ∨ f = 4 := by rcases (vA_iff f hi lo).1 hvA with h | ⟨h, -⟩ <;> simp [h]
    have hlen : 0 < (paB f hi lo).length := by
      rcases (vA_iff f hi lo).1 hvA with rfl | ⟨rfl, rfl, h3⟩
      · rw [paB_6, List.length_append, be_len]; omega
      · rw [paB_4 h3, be_len]; omega
    refine (put_yes f hi lo c _ w hh hl (Lib.hid hv) (by omega) (by omega) (by omega) (Lib.hid rfl) hlen (paB_len f hi lo)).mono ?_
    rintro e w' ⟨v, rfl, hown, hb⟩
    refine ⟨v, rfl, ?_, hb⟩
    have hfN : ((f.toNat : Nat) : Int) = f := by omega
    rw [pB_yes hv, List.map_cons, List.map_cons, cel_nat _ (by omega), cel_nat _ (by omega), hfN, Int.toNat_natCast, List.length_cons, List.length_cons, show (paB f hi lo).length + 1 + 1 = 2 + (paB f hi lo).length by omega]
    exact hown

end Go.Proofs.YtnodiejfhkjliaaDoor.Pf

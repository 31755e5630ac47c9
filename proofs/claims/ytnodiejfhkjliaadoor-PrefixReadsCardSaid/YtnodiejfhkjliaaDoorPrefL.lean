/- Contract: an address's bytes, by the program. -/
import Derived.Test.YtnodiejfhkjliaaDoorPrefK
namespace Go.Proofs.YtnodiejfhkjliaaDoor.Pf
open Go.RowKit Go.Proofs.YtnodiejfhkjliaaDoor.Wd Go.Proofs.YtnodiejfhkjliaaDoor.Px Go.Proofs.YtnodiejfhkjliaaDoor.By

theorem own_slice {w : World} {base : Nat} {e : TypeId} {n : Nat} {v : Value} {xs : List Value} (h : w.ownsRow base e 1 v n xs) : ∃ A c, v = .slice A n c := by
  rcases h.2 with ⟨rfl, rfl⟩ | ⟨g, cap, _, rfl, _⟩
  · have := h.1
    simp at this
    subst this
    exact ⟨_, _, rfl⟩
  · exact ⟨_, _, rfl⟩
theorem own_shows {w : World} {base : Nat} {A : Option Addr} {n c : Nat} {l : List UInt8} (h : w.ownsRow base 5 1 (.slice A n c) n (l.map cel)) : Shows cel w w.heap.size A l := by
  have hn : l.length = n := by have := h.1; simpa using this
  subst hn
  exact Shows.of_own h

/-- an address's bytes -/
def paB (f : Int) (hi lo : Nat) : List UInt8 := if vA f hi lo = true then (if f = 4 then be 4 lo else be 8 hi ++ be 8 lo) else []
theorem paB_no {f : Int} {hi lo : Nat} (h : vA f hi lo = false) : paB f hi lo = [] := by unfold paB; rw [if_neg (by simp [h])]
theorem paB_4 {lo : Nat} (h : lo < 4294967296) : paB 4 0 lo = be 4 lo := by
  have : vA 4 0 lo = true := by rw [vA_iff]; exact .inr ⟨rfl, rfl, h⟩
  simp [paB, this]
theorem paB_6 (hi lo : Nat) : paB 6 hi lo = be 8 hi ++ be 8 lo := by
  have : vA 6 hi lo = true := by rw [vA_iff]; exact .inl rfl
  simp [paB, this]
theorem paB_len (f : Int) (hi lo : Nat) : (paB f hi lo).length ≤ 16 := by
  unfold paB
  split
  · split
    · rw [be_len]; omega
    · rw [List.length_append, be_len, be_len]; omega
  · simp

theorem putaddr_no (f : Int) (hi lo : Nat) (w : World) (HV : Hid (vA f hi lo = false)) :
    Calls Tryd.prog 20 #[.agg #[.int .i64 f, .int .u64 hi, .int .u64 lo]] w fun e w' => e = .returned (.slice none 0 0) ∧ Below w.heap.size w w' := by
  have hbl := one w (.cells #[.int .i64 f, .int .u64 hi, .int .u64 lo] 24)
  go_enter Tryd.func20, Tryd.ntmps20
  go_wp2_with fail
  refine (vaddr_as HV _).mono ?_
  rintro e w1 ⟨rfl, hb1⟩
  have hbl1 := hbl.trans (hb1.mono hbl.size)
  clear hbl hb1
  go_wp2
  go_ret
  exact ⟨rfl, hbl1⟩

theorem putaddr_4 (lo : Nat) (hlo : lo < 4294967296) (w : World) :
    Calls Tryd.prog 20 #[.agg #[.int .i64 4, .int .u64 0, .int .u64 lo]] w fun e w' => ∃ v, e = .returned v ∧ w'.ownsRow w.heap.size 5 1 v 4 ((be 4 lo).map cel) ∧ Below w.heap.size w w' := by
  have HV : Hid (vA 4 0 lo = true) := Lib.hid (by rw [vA_iff]; exact .inr ⟨rfl, rfl, hlo⟩)
  have ha := ab_new w 4 0 lo 24
  have hbl := one w (.cells #[.int .i64 4, .int .u64 (0 : Nat), .int .u64 lo] 24)
  have hlo1 : (lo : Int) < 4294967296 := by omega
  go_enter Tryd.func20, Tryd.ntmps20
  go_wp2_with fail
  refine (vaddr_as HV _).mono ?_
  rintro e w1 ⟨rfl, hb1⟩
  have ha1 := ha.on hb1
  have hbl1 := hbl.trans (hb1.mono hbl.size)
  clear hbl hb1 ha
  obtain ⟨a0, a1, a2⟩ := ha1
  go_wp2_with fail
  refine (put32 lo hlo _).mono ?_
  rintro e w2 ⟨v, rfl, hown, hb2⟩
  have hbl2 := hbl1.trans (hb2.mono hbl1.size)
  have hown2 := own_base hown hbl1.size
  clear hown hb2 hbl1 a0 a1 a2
  go_wp2
  go_ret
  exact ⟨_, rfl, hown2, hbl2⟩

theorem keepA {w W W' : World} {B : Nat} {f : Int} {hi lo : Nat} (h : W.cell? ⟨B, 0, none⟩ = some (.int .i64 f) ∧ W.cell? ⟨B, 1, none⟩ = some (.int .u64 hi) ∧ W.cell? ⟨B, 2, none⟩ = some (.int .u64 lo) ∧ Below w.heap.size w W) (hb : Below W.heap.size W W') :
    W'.cell? ⟨B, 0, none⟩ = some (.int .i64 f) ∧ W'.cell? ⟨B, 1, none⟩ = some (.int .u64 hi) ∧ W'.cell? ⟨B, 2, none⟩ = some (.int .u64 lo) ∧ Below w.heap.size w W' :=
  ⟨keepc hb h.1, keepc hb h.2.1, keepc hb h.2.2.1, h.2.2.2.trans (hb.mono h.2.2.2.size)⟩

set_option maxRecDepth 20000 in
set_option maxHeartbeats 2000000 in
theorem putaddr_6 (hi lo : Nat) (hh : hi < 18446744073709551616) (hl : lo < 18446744073709551616) (w : World) :
    Calls Tryd.prog 20 #[.agg #[.int .i64 6, .int .u64 hi, .int .u64 lo]] w fun e w' => ∃ v, e = .returned v ∧ w'.ownsRow w.heap.size 5 1 v 16 ((be 8 hi ++ be 8 lo).map cel) ∧ Below w.heap.size w w' := by
  have HV : Hid (vA 6 hi lo = true) := Lib.hid (by rw [vA_iff]; exact .inl rfl)
  have ha := ab_new w 6 hi lo 24
  have hbl := one w (.cells #[.int .i64 6, .int .u64 hi, .int .u64 lo] 24)
  go_enter Tryd.func20, Tryd.ntmps20
  go_wp2_with fail
  refine (vaddr_as HV _).mono ?_
  rintro e w1 ⟨rfl, hb1⟩
  have hbl1 := (hbl.trans (hb1.mono hbl.size)).drew
  have ha1 := ha.on hb1.drew
  clear hbl ha
  have ha0 := keepc hb1 (b := w.heap.size) (o := 0) (v := .int .i64 6) (by go_simp)
  clear hb1
  obtain ⟨a0, a1, a2⟩ := ha1
  go_upto_region 5 with fail
  go_region_held3 (fun W => W.cell? ⟨w.heap.size, 0, none⟩ = some (.int .i64 6) ∧ W.cell? ⟨w.heap.size, 1, none⟩ = some (.int .u64 hi) ∧ W.cell? ⟨w.heap.size, 2, none⟩ = some (.int .u64 lo) ∧ Below w.heap.size w W)
    (first | exact ⟨a0, a1, a2, hbl1⟩ | assumption | exact keepA (by assumption) (by assumption))
    (first
      | (go_at_call 47; ((with_reducible refine (put64 hi hh _).mono ?_); rintro e w2 ⟨v2, rfl, hown2, hb2⟩; obtain ⟨A2, k2, rfl⟩ := own_slice hown2))
      | (go_at_call 47; ((with_reducible refine (put64b lo hl _ (be 8 hi) (be_len 8 hi) A2 k2 (own_shows hown2)).mono ?_); rintro e w3 ⟨v3, rfl, hown3, hb3⟩)))
  have hS : w3.cell? ⟨w.heap.size, 0, none⟩ = some (.int .i64 6) ∧ w3.cell? ⟨w.heap.size, 1, none⟩ = some (.int .u64 hi) ∧ w3.cell? ⟨w.heap.size, 2, none⟩ = some (.int .u64 lo) ∧ Below w.heap.size w w3 := by assumption
  have hown4 := own_base hown3 (Nat.le_trans hbl1.size hb2.size)
  clear hown2 hown3 hb2 hb3 a0 a1 a2 ha0 hbl1
  go_wp2
  go_ret
  exact ⟨_, rfl, hown4, hS.2.2.2⟩

theorem putaddr_any (f : Int) (hi lo : Nat) (w : World) (hh : hi < 18446744073709551616) (hl : lo < 18446744073709551616) :
    Calls Tryd.prog 20 #[.agg #[.int .i64 f, .int .u64 hi, .int .u64 lo]] w fun e w' => ∃ v, e = .returned v ∧ w'.ownsRow w.heap.size 5 1 v (paB f hi lo).length ((paB f hi lo).map cel) ∧ Below w.heap.size w w' := by
  cases hv : vA f hi lo with
  | false =>
    rw [paB_no hv]
    refine (putaddr_no f hi lo w (Lib.hid hv)).mono ?_
    rintro e w' ⟨rfl, hb⟩
    exact ⟨_, rfl, World.ownsRow_nil _ _ _ _, hb⟩
  | true =>
    rcases (vA_iff f hi lo).1 hv with rfl | ⟨rfl, rfl, h3⟩
    · rw [paB_6, show (be 8 hi ++ be 8 lo).length = 16 by rw [List.length_append, be_len, be_len]]
      exact putaddr_6 hi lo hh hl w
    · rw [paB_4 h3, be_len]
      exact putaddr_4 lo h3 w

end Go.Proofs.YtnodiejfhkjliaaDoor.Pf

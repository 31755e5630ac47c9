/- Contracts: the kept lists are as they were. -/
import Derived.Test.YtdpcmokemjfelaaGreatDoorKeptD
import Derived.LoopN
namespace Go.Proofs.YtdpcmokemjfelaaGreatDoor.Kp
open Go.RowKit Go.Proofs.YtdpcmokemjfelaaGreatDoor.Wd Go.Proofs.YtdpcmokemjfelaaGreatDoor.Px Go.Proofs.YtdpcmokemjfelaaGreatDoor.By Go.Proofs.YtdpcmokemjfelaaGreatDoor.Pf

set_option maxRecDepth 20000 in
set_option maxHeartbeats 1000000 in
theorem wasof_any (K p : Nat) (v0 v1 v2 : Value) (w : World) (h : Bk K p v0 v1 v2 w) : Calls Tryz.prog 28 #[.pointer (some ⟨K, 0, none⟩)] w fun e w' => e = .returned (.bool true) ∧ w' = w := by
  have n1 := h.nn 17 (by omega) (by omega)
  have n2 := h.nn 23 (by omega) (by omega)
  have n3 := h.nn 26 (by omega) (by omega)
  have n4 := h.nn 29 (by omega) (by omega)
  have n5 := h.nn 32 (by omega) (by omega)
  have n6 := h.nn 38 (by omega) (by omega)
  go_enter Tryz.func28, Tryz.ntmps28
  go_wp2
  refine wp_loop_rounds 1 ?_
  rw [rounds_succ]
  go_wp2
  refine wp_loop_rounds 1 ?_
  rw [rounds_succ]
  go_wp2
  refine wp_loop_rounds 1 ?_
  rw [rounds_succ]
  go_wp2
  refine wp_loop_rounds 1 ?_
  rw [rounds_succ]
  go_wp2
  refine wp_loop_rounds 1 ?_
  rw [rounds_succ]
  go_wp2
  refine wp_loop_rounds 1 ?_
  rw [rounds_succ]
  go_wp2
  go_ret
  exact ⟨rfl, rfl⟩
set_option maxRecDepth 20000 in
set_option maxHeartbeats 1000000 in
theorem wastoo_any (K p : Nat) (v0 v1 v2 : Value) (w : World) (h : Bk K p v0 v1 v2 w) : Calls Tryz.prog 29 #[.pointer (some ⟨K, 0, none⟩)] w fun e w' => e = .returned (.bool true) ∧ w' = w := by
  have n1 := h.nn 35 (by omega) (by omega)
  have n2 := h.nn 41 (by omega) (by omega)
  have n3 := h.nn 44 (by omega) (by omega)
  have n4 := h.nn 47 (by omega) (by omega)
  have n5 := h.nn 50 (by omega) (by omega)
  go_enter Tryz.func29, Tryz.ntmps29
  go_wp2
  refine wp_loop_rounds 1 ?_
  rw [rounds_succ]
  go_wp2
  refine wp_loop_rounds 1 ?_
  rw [rounds_succ]
  go_wp2
  refine wp_loop_rounds 1 ?_
  rw [rounds_succ]
  go_wp2
  refine wp_loop_rounds 1 ?_
  rw [rounds_succ]
  go_wp2
  refine wp_loop_rounds 1 ?_
  rw [rounds_succ]
  go_wp2
  go_ret
  exact ⟨rfl, rfl⟩

theorem same_m {l : List UInt8} {m : Nat} (hm : Hid (l.length = m)) (h9 : m ≤ 1000) (A A' : Option Addr) (c c' : Nat) (w : World) (hs : Shows cel w w.heap.size A l) (hs' : Shows cel w w.heap.size A' l) :
    Calls Tryz.prog 6 #[.slice A m c, .slice A' m c'] w fun e w' => e = .returned (.bool true) ∧ Below w.heap.size w w' := by
  have hm' := hm.out
  subst hm'
  have := By.same_any l l A A' c c' w (by omega) hs hs'
  rwa [decide_eq_true rfl] at this

/-- an element of a row of rows -/
theorem own_at {B n : Nat} {e : TypeId} {W : World} {v : Value} {xs : List Value} (h : W.ownsRow B e 1 v n xs) (hn : xs.length = n) (i : Nat) (hi : i < n) : ∃ g c x, v = .slice (some ⟨g, 0, none⟩) n c ∧ xs[i]? = some x ∧ W.cell? ⟨g, i, none⟩ = some x ∧ W.ownsRow B e 1 (.slice (some ⟨g, 0, none⟩) n c) n xs := by
  obtain ⟨g, c, rfl, -, -⟩ := h.form (by omega)
  obtain ⟨x, hx⟩ : ∃ x, xs[i]? = some x := ⟨_, List.getElem?_eq_getElem (by omega)⟩
  exact ⟨g, c, x, rfl, hx, (h.cellAt i (by omega)).trans hx, h⟩

set_option maxRecDepth 20000 in
set_option maxHeartbeats 2000000 in
theorem was_any (B K : Nat) (vs us : List Value) (cs : List (List UInt8)) (w : World) (h : BkA B K vs us cs w) (hl : ∀ c ∈ cs, c.length ≤ 1000) (hn : vs.length ≤ 1000) :
    Calls Tryz.prog 27 #[.pointer (some ⟨K, 0, none⟩)] w fun e w' => e = .returned (.bool true) ∧ Below w.heap.size w w' := by
  obtain ⟨⟨v0, v1, hco⟩, rv, ru, ap⟩ := h
  obtain ⟨n, hnn⟩ : ∃ n, vs.length = n := ⟨_, rfl⟩
  have hlu : us.length = n := by rw [ru.len, ← rv.len, hnn]
  have hlc : cs.length = n := by rw [← rv.len, hnn]
  have HN := Lib.hid hnn
  have HU := Lib.hid hlu
  have HC := Lib.hid hlc
  have hn' : n ≤ 1000 := by omega
  have o0 := hco.o0
  have o1 := hco.o1
  rw [hnn] at o0
  rw [hlu] at o1
  obtain ⟨A0, k0, rfl⟩ := own_slice o0
  obtain ⟨A1, k1, rfl⟩ := own_slice o1
  clear hnn hlu hlc hn
  go_enter Tryz.func27, Tryz.ntmps27
  go_wp2
  go_loopw [3] (fun i wr => ∃ k : Nat, k ≤ n ∧ i = .int .i64 (k : Int) ∧ Below w.heap.size w wr) (fun i _ => n - (intOf i).toNat)
  case atStart => exact ⟨0, Nat.zero_le _, rfl, Below.refl _ _⟩
  case round =>
    obtain ⟨k, hk, rfl, hbk⟩ := hrel
    have hcr := hco.on hbk
    have c2 := hcr.bk.c2
    have c3 := hcr.bk.c3
    by_cases hlt : k < n
    · have i1 : (k : Int) < (n : Int) := by omega
      obtain ⟨l, hl0⟩ : ∃ l, cs[k]? = some l := ⟨_, List.getElem?_eq_getElem (by rw [HC.out]; exact hlt)⟩
      obtain ⟨g0, q0, x0, e0, hx0, cx0, -⟩ := own_at (own_on o0 hbk) HN.out k hlt
      obtain ⟨g1, q1, x1, e1, hx1, cx1, -⟩ := own_at (own_on o1 hbk) HU.out k hlt
      injection e0 with e0 _ e0'
      injection e1 with e1 _ e1'
      subst e0 e0' e1 e1'
      have ox := (rv.on hbk).own k x0 l hx0 hl0
      have oy := (ru.on hbk).own k x1 l hx1 hl0
      obtain ⟨m, hm⟩ : ∃ m, l.length = m := ⟨_, rfl⟩
      have hm9 : m ≤ 1000 := by rw [← hm]; exact hl l (List.mem_of_getElem? hl0)
      obtain ⟨Ax, kx, rfl⟩ := own_slice ox
      obtain ⟨Ay, ky, rfl⟩ := own_slice oy
      have sx : Shows cel wr wr.heap.size Ax l := Shows.of_own (base := B) (e := 5) ox
      have sy : Shows cel wr wr.heap.size Ay l := Shows.of_own (base := B) (e := 5) oy
      rw [hm] at cx0 cx1
      have HM := Lib.hid hm
      clear ox oy hx0 hx1 hl0 hm
      have f2 := after_cell c2
      have f3 := after_cell c3
      have f4 := after_cell cx0
      have f5 := after_cell cx1
      go_upto_region 4 with fail
      refine wp_region_after (by kernel_rfl) (by kernel_rfl) ?_
      repeat (go_big_quiet_step ((first
        | (go_at_call 6; exact after_of (same_m HM hm9 _ _ _ _ _ (sx.on (After.b _)) (sy.on (After.b _)))))))
      refine wpQuiet_nil ?_
      rintro _ ⟨x, rfl⟩
      have hx := x.b
      clear f2 f3 f4 f5 sx sy c2 c3 cx0 cx1
      go_wp2
      go_roundw
      case rel => exact ⟨k + 1, by omega, by go_num, hbk.trans (hx.mono hbk.size)⟩
      case measure => simp [intOf]; omega
    · obtain rfl : k = n := by omega
      have i1 : ¬ (k : Int) < (k : Int) := by omega
      have n1 := hcr.bk.nn 5 (by omega) (by omega)
      have n2 := hcr.bk.nn 8 (by omega) (by omega)
      have n3 := hcr.bk.nn 11 (by omega) (by omega)
      have n4 := hcr.bk.nn 14 (by omega) (by omega)
      have n5 := hcr.bk.nn 20 (by omega) (by omega)
      go_wp2
      refine wp_loop_rounds 1 ?_
      rw [rounds_succ]
      go_wp2
      refine wp_loop_rounds 1 ?_
      rw [rounds_succ]
      go_wp2
      refine wp_loop_rounds 1 ?_
      rw [rounds_succ]
      go_wp2
      refine wp_loop_rounds 1 ?_
      rw [rounds_succ]
      go_wp2
      refine wp_loop_rounds 1 ?_
      rw [rounds_succ]
      go_wp2
      go_ret
      exact ⟨rfl, hbk⟩

theorem untouched_any (B K : Nat) (vs us : List Value) (cs : List (List UInt8)) (w : World) (h : BkA B K vs us cs w) (hl : ∀ c ∈ cs, c.length ≤ 1000) (hn : vs.length ≤ 1000) :
    Calls Tryz.prog 21 #[.pointer (some ⟨K, 0, none⟩)] w fun e w' => e = .returned (.bool true) ∧ Below w.heap.size w w' := by
  go_enter Tryz.func21, Tryz.ntmps21
  go_wp2_with fail
  refine (was_any B K vs us cs w h hl hn).mono ?_
  rintro e w1 ⟨rfl, hb1⟩
  obtain ⟨⟨v0, v1, hco⟩, -, -, -⟩ := h.on hb1
  go_wp2_with fail
  refine (wasof_any K 0 _ _ _ w1 hco.bk).mono ?_
  rintro e w2 ⟨rfl, rfl⟩
  go_wp2_with fail
  refine (wastoo_any K 0 _ _ _ w2 hco.bk).mono ?_
  rintro e w3 ⟨rfl, rfl⟩
  go_wp2
  go_ret
  exact ⟨rfl, hb1⟩

end Go.Proofs.YtdpcmokemjfelaaGreatDoor.Kp

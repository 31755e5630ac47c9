/- Contracts: a book of lists: the marks; the kinds of which nothing is kept. -/
import Derived.Test.YtdpcmokemjfelaaGreatDoorMC
import Derived.LoopN
namespace Go.Proofs.YtdpcmokemjfelaaGreatDoor.Kp
open Go.RowKit Go.Proofs.YtdpcmokemjfelaaGreatDoor.Wd Go.Proofs.YtdpcmokemjfelaaGreatDoor.Px Go.Proofs.YtdpcmokemjfelaaGreatDoor.By Go.Proofs.YtdpcmokemjfelaaGreatDoor.Pf

/-- the book's block: the pass, the rows of bytes (kept, as they were, grown); nothing of any other kind -/
structure Bk (K p : Nat) (v0 v1 v2 : Value) (W : World) : Prop where
  c0 : W.cell? ⟨K, 0, none⟩ = some (.int .i64 0)
  c1 : W.cell? ⟨K, 1, none⟩ = some (.int .i64 (p : Int))
  c2 : W.cell? ⟨K, 2, none⟩ = some v0
  c3 : W.cell? ⟨K, 3, none⟩ = some v1
  c4 : W.cell? ⟨K, 4, none⟩ = some v2
  nn : ∀ o, 5 ≤ o → o < 53 → W.cell? ⟨K, o, none⟩ = some (.slice none 0 0)
  fz : ∀ o, W.frozen? ⟨K, o, none⟩ = false
theorem Bk.on {K p : Nat} {v0 v1 v2 : Value} {W W' : World} (h : Bk K p v0 v1 v2 W) (hb : W'.heap[K]? = W.heap[K]?) : Bk K p v0 v1 v2 W' :=
  have hc : ∀ o, W'.cell? ⟨K, o, none⟩ = W.cell? ⟨K, o, none⟩ := fun o => World.cell?_of_block (a := ⟨K, o, none⟩) hb
  ⟨(hc 0).trans h.c0, (hc 1).trans h.c1, (hc 2).trans h.c2, (hc 3).trans h.c3, (hc 4).trans h.c4, fun o h1 h2 => (hc o).trans (h.nn o h1 h2), fun o => (World.frozen?_of_block (a := ⟨K, o, none⟩) hb).trans (h.fz o)⟩

/-- the mark j of the list number id in the pass p -/
def bmn (p id j : Nat) : Nat := if p = 1 then id * 97 + j * 31 else id / 256 * 59 + j * 13 + id % 256 * 3 + 1
def bmk (p id j : Nat) : UInt8 := UInt8.ofNat (bmn p id j)
def marks (p id n : Nat) : List UInt8 := (List.range n).map (bmk p id)
theorem marks_len (p id n : Nat) : (marks p id n).length = n := by simp [marks]
theorem marks_at (p id n j : Nat) (h : j < (marks p id n).length) : (marks p id n)[j] = bmk p id j := by simp [marks]
theorem marks_succ (p id n : Nat) : marks p id (n + 1) = marks p id n ++ [bmk p id n] := by simp [marks, List.range_succ]
theorem cel_ofNat (n : Nat) : cel (UInt8.ofNat n) = .int .u8 ((n % 256 : Nat) : Int) := by
  unfold cel
  rw [UInt8.toNat_ofNat']

set_option maxHeartbeats 1000000 in
theorem bytemark_any (K p id j : Nat) (w : World) (hc : w.cell? ⟨K, 1, none⟩ = some (.int .i64 (p : Int))) (hp : p ≤ 1) (hid : id ≤ 1000) (hj : j ≤ 1000) :
    Calls Tryz.prog 97 #[.pointer (some ⟨K, 0, none⟩), .int .i64 (id : Int), .int .i64 (j : Int)] w fun e w' => e = .returned (cel (bmk p id j)) ∧ w' = w := by
  have hcel := cel_ofNat (bmn p id j)
  unfold bmk
  rw [hcel]
  unfold bmn
  clear hcel
  rcases (by omega : p = 0 ∨ p = 1) with rfl | rfl
  · have w1 : IntKind.i64.wrap ((id : Int) / 256 * 59) = (id : Int) / 256 * 59 := IntWalk.i64_in _ ⟨by omega, by omega⟩
    have w2 : IntKind.i64.wrap ((j : Int) * 13) = (j : Int) * 13 := IntWalk.i64_in _ ⟨by omega, by omega⟩
    have w3 : IntKind.i64.wrap ((id : Int) / 256 * 59 + (j : Int) * 13) = (id : Int) / 256 * 59 + (j : Int) * 13 := IntWalk.i64_in _ ⟨by omega, by omega⟩
    have w4 : IntKind.i64.wrap ((id : Int) % 256 * 3) = (id : Int) % 256 * 3 := IntWalk.i64_in _ ⟨by omega, by omega⟩
    have w5 : IntKind.i64.wrap ((id : Int) / 256 * 59 + (j : Int) * 13 + (id : Int) % 256 * 3) = (id : Int) / 256 * 59 + (j : Int) * 13 + (id : Int) % 256 * 3 := IntWalk.i64_in _ ⟨by omega, by omega⟩
    have w6 : IntKind.i64.wrap ((id : Int) / 256 * 59 + (j : Int) * 13 + (id : Int) % 256 * 3 + 1) = (id : Int) / 256 * 59 + (j : Int) * 13 + (id : Int) % 256 * 3 + 1 := IntWalk.i64_in _ ⟨by omega, by omega⟩
    have d1 : (id : Int).tdiv 256 = (id : Int) / 256 := Int.tdiv_eq_ediv_of_nonneg (by omega)
    have d2 : (id : Int).tmod 256 = (id : Int) % 256 := Int.tmod_eq_emod_of_nonneg (by omega)
    have d3 : IntKind.i64.wrap ((id : Int) / 256) = (id : Int) / 256 := IntWalk.i64_in _ ⟨by omega, by omega⟩
    go_enter Tryz.func97, Tryz.ntmps97
    go_wp2
    go_ret
    refine ⟨?_, rfl⟩
    refine ret_int ?_
    simp
  · have w1 : IntKind.i64.wrap ((id : Int) * 97) = (id : Int) * 97 := IntWalk.i64_in _ ⟨by omega, by omega⟩
    have w2 : IntKind.i64.wrap ((j : Int) * 31) = (j : Int) * 31 := IntWalk.i64_in _ ⟨by omega, by omega⟩
    have w3 : IntKind.i64.wrap ((id : Int) * 97 + (j : Int) * 31) = (id : Int) * 97 + (j : Int) * 31 := IntWalk.i64_in _ ⟨by omega, by omega⟩
    go_enter Tryz.func97, Tryz.ntmps97
    go_wp2
    go_ret
    refine ⟨?_, rfl⟩
    refine ret_int ?_
    simp

set_option maxHeartbeats 1000000 in
theorem bytesshow_any (K p id n c : Nat) (A : Option Addr) (w : World) (hc : w.cell? ⟨K, 1, none⟩ = some (.int .i64 (p : Int))) (hp : p ≤ 1) (hid : id ≤ 1000) (hn : n ≤ 1000) (hs : Shows cel w w.heap.size A (marks p id n)) :
    Calls Tryz.prog 114 #[.pointer (some ⟨K, 0, none⟩), .slice A n c, .int .i64 (id : Int)] w fun e w' => e = .returned (.bool true) ∧ w' = w := by
  go_enter Tryz.func114, Tryz.ntmps114
  go_wp2
  go_loopw [7] (fun i wr => wr = w ∧ ∃ k : Nat, k ≤ n ∧ i = .int .i64 (k : Int)) (fun i _ => n - (intOf i).toNat)
  case atStart => exact ⟨rfl, 0, Nat.zero_le _, rfl⟩
  case round =>
    obtain ⟨rfl, k, hk, rfl⟩ := hrel
    by_cases hlt : k < n
    · have i1 : (k : Int) < (n : Int) := by omega
      obtain ⟨b, o, rfl, hb2, hcl⟩ := hs.at_ (i := k) (by rw [marks_len]; exact hlt)
      rw [marks_at] at hcl
      have HC := Lib.hid hc
      obtain ⟨x, hx⟩ : ∃ x : Nat, (bmk p id k).toNat = x := ⟨_, rfl⟩
      have hm := bytemark_any K p id k wr hc hp hid (by omega)
      unfold cel at hm hcl
      rw [hx] at hm hcl
      go_wp2_with fail
      refine hm.mono ?_
      rintro e w2 ⟨rfl, rfl⟩
      clear hm
      go_wp2
      go_roundw
      case rel => exact ⟨trivial, k + 1, by omega, by go_num⟩
      case measure => simp [intOf]; omega
    · obtain rfl : k = n := by omega
      have i1 : ¬ (k : Int) < (k : Int) := by omega
      go_wp2
      go_ret
      exact ⟨rfl, rfl⟩

theorem boolsWrite_0 (K : Nat) (id : Int) (w : World) (h : w.cell? ⟨K, 5, none⟩ = some (.slice none 0 0)) : Calls Tryz.prog 31 #[.pointer (some ⟨K, 0, none⟩), .int .i64 id] w fun e w' => e = .returned (.int .i64 id) ∧ w' = w := by
  go_enter Tryz.func31, Tryz.ntmps31
  go_wp2
  refine wp_loop_rounds 1 ?_
  rw [rounds_succ]
  go_wp2
  go_ret
  exact ⟨rfl, rfl⟩
theorem boolsGrow_0 (K : Nat) (id t : Int) (w : World) (h : w.cell? ⟨K, 5, none⟩ = some (.slice none 0 0)) : Calls Tryz.prog 65 #[.pointer (some ⟨K, 0, none⟩), .int .i64 id, .int .i64 t] w fun e w' => e = .returned (.int .i64 id) ∧ w' = w := by
  go_enter Tryz.func65, Tryz.ntmps65
  go_wp2
  refine wp_loop_rounds 1 ?_
  rw [rounds_succ]
  go_wp2
  go_ret
  exact ⟨rfl, rfl⟩
theorem boolsHold_0 (K : Nat) (id : Int) (w : World) (h : w.cell? ⟨K, 5, none⟩ = some (.slice none 0 0)) : Calls Tryz.prog 48 #[.pointer (some ⟨K, 0, none⟩), .int .i64 id] w fun e w' => e = .returned (.tuple #[.int .i64 id, .bool true]) ∧ w' = w := by
  go_enter Tryz.func48, Tryz.ntmps48
  go_wp2
  refine wp_loop_rounds 1 ?_
  rw [rounds_succ]
  go_wp2
  go_ret2
  exact ⟨rfl, rfl⟩
theorem intsWrite_0 (K : Nat) (id : Int) (w : World) (h : w.cell? ⟨K, 8, none⟩ = some (.slice none 0 0)) : Calls Tryz.prog 32 #[.pointer (some ⟨K, 0, none⟩), .int .i64 id] w fun e w' => e = .returned (.int .i64 id) ∧ w' = w := by
  go_enter Tryz.func32, Tryz.ntmps32
  go_wp2
  refine wp_loop_rounds 1 ?_
  rw [rounds_succ]
  go_wp2
  go_ret
  exact ⟨rfl, rfl⟩
theorem intsGrow_0 (K : Nat) (id t : Int) (w : World) (h : w.cell? ⟨K, 8, none⟩ = some (.slice none 0 0)) : Calls Tryz.prog 66 #[.pointer (some ⟨K, 0, none⟩), .int .i64 id, .int .i64 t] w fun e w' => e = .returned (.int .i64 id) ∧ w' = w := by
  go_enter Tryz.func66, Tryz.ntmps66
  go_wp2
  refine wp_loop_rounds 1 ?_
  rw [rounds_succ]
  go_wp2
  go_ret
  exact ⟨rfl, rfl⟩
theorem intsHold_0 (K : Nat) (id : Int) (w : World) (h : w.cell? ⟨K, 8, none⟩ = some (.slice none 0 0)) : Calls Tryz.prog 49 #[.pointer (some ⟨K, 0, none⟩), .int .i64 id] w fun e w' => e = .returned (.tuple #[.int .i64 id, .bool true]) ∧ w' = w := by
  go_enter Tryz.func49, Tryz.ntmps49
  go_wp2
  refine wp_loop_rounds 1 ?_
  rw [rounds_succ]
  go_wp2
  go_ret2
  exact ⟨rfl, rfl⟩
theorem textsWrite_0 (K : Nat) (id : Int) (w : World) (h : w.cell? ⟨K, 11, none⟩ = some (.slice none 0 0)) : Calls Tryz.prog 33 #[.pointer (some ⟨K, 0, none⟩), .int .i64 id] w fun e w' => e = .returned (.int .i64 id) ∧ w' = w := by
  go_enter Tryz.func33, Tryz.ntmps33
  go_wp2
  refine wp_loop_rounds 1 ?_
  rw [rounds_succ]
  go_wp2
  go_ret
  exact ⟨rfl, rfl⟩
theorem textsGrow_0 (K : Nat) (id t : Int) (w : World) (h : w.cell? ⟨K, 11, none⟩ = some (.slice none 0 0)) : Calls Tryz.prog 67 #[.pointer (some ⟨K, 0, none⟩), .int .i64 id, .int .i64 t] w fun e w' => e = .returned (.int .i64 id) ∧ w' = w := by
  go_enter Tryz.func67, Tryz.ntmps67
  go_wp2
  refine wp_loop_rounds 1 ?_
  rw [rounds_succ]
  go_wp2
  go_ret
  exact ⟨rfl, rfl⟩
theorem textsHold_0 (K : Nat) (id : Int) (w : World) (h : w.cell? ⟨K, 11, none⟩ = some (.slice none 0 0)) : Calls Tryz.prog 50 #[.pointer (some ⟨K, 0, none⟩), .int .i64 id] w fun e w' => e = .returned (.tuple #[.int .i64 id, .bool true]) ∧ w' = w := by
  go_enter Tryz.func50, Tryz.ntmps50
  go_wp2
  refine wp_loop_rounds 1 ?_
  rw [rounds_succ]
  go_wp2
  go_ret2
  exact ⟨rfl, rfl⟩
theorem byteListsWrite_0 (K : Nat) (id : Int) (w : World) (h : w.cell? ⟨K, 14, none⟩ = some (.slice none 0 0)) : Calls Tryz.prog 34 #[.pointer (some ⟨K, 0, none⟩), .int .i64 id] w fun e w' => e = .returned (.int .i64 id) ∧ w' = w := by
  go_enter Tryz.func34, Tryz.ntmps34
  go_wp2
  refine wp_loop_rounds 1 ?_
  rw [rounds_succ]
  go_wp2
  go_ret
  exact ⟨rfl, rfl⟩
theorem byteListsGrow_0 (K : Nat) (id t : Int) (w : World) (h : w.cell? ⟨K, 14, none⟩ = some (.slice none 0 0)) : Calls Tryz.prog 68 #[.pointer (some ⟨K, 0, none⟩), .int .i64 id, .int .i64 t] w fun e w' => e = .returned (.int .i64 id) ∧ w' = w := by
  go_enter Tryz.func68, Tryz.ntmps68
  go_wp2
  refine wp_loop_rounds 1 ?_
  rw [rounds_succ]
  go_wp2
  go_ret
  exact ⟨rfl, rfl⟩
theorem byteListsHold_0 (K : Nat) (id : Int) (w : World) (h : w.cell? ⟨K, 14, none⟩ = some (.slice none 0 0)) : Calls Tryz.prog 51 #[.pointer (some ⟨K, 0, none⟩), .int .i64 id] w fun e w' => e = .returned (.tuple #[.int .i64 id, .bool true]) ∧ w' = w := by
  go_enter Tryz.func51, Tryz.ntmps51
  go_wp2
  refine wp_loop_rounds 1 ?_
  rw [rounds_succ]
  go_wp2
  go_ret2
  exact ⟨rfl, rfl⟩
theorem prefixesWrite_0 (K : Nat) (id : Int) (w : World) (h : w.cell? ⟨K, 17, none⟩ = some (.slice none 0 0)) : Calls Tryz.prog 35 #[.pointer (some ⟨K, 0, none⟩), .int .i64 id] w fun e w' => e = .returned (.int .i64 id) ∧ w' = w := by
  go_enter Tryz.func35, Tryz.ntmps35
  go_wp2
  refine wp_loop_rounds 1 ?_
  rw [rounds_succ]
  go_wp2
  go_ret
  exact ⟨rfl, rfl⟩
theorem prefixesGrow_0 (K : Nat) (id t : Int) (w : World) (h : w.cell? ⟨K, 17, none⟩ = some (.slice none 0 0)) : Calls Tryz.prog 69 #[.pointer (some ⟨K, 0, none⟩), .int .i64 id, .int .i64 t] w fun e w' => e = .returned (.int .i64 id) ∧ w' = w := by
  go_enter Tryz.func69, Tryz.ntmps69
  go_wp2
  refine wp_loop_rounds 1 ?_
  rw [rounds_succ]
  go_wp2
  go_ret
  exact ⟨rfl, rfl⟩
theorem prefixesHold_0 (K : Nat) (id : Int) (w : World) (h : w.cell? ⟨K, 17, none⟩ = some (.slice none 0 0)) : Calls Tryz.prog 52 #[.pointer (some ⟨K, 0, none⟩), .int .i64 id] w fun e w' => e = .returned (.tuple #[.int .i64 id, .bool true]) ∧ w' = w := by
  go_enter Tryz.func52, Tryz.ntmps52
  go_wp2
  refine wp_loop_rounds 1 ?_
  rw [rounds_succ]
  go_wp2
  go_ret2
  exact ⟨rfl, rfl⟩
theorem openingsWrite_0 (K : Nat) (id : Int) (w : World) (h : w.cell? ⟨K, 20, none⟩ = some (.slice none 0 0)) : Calls Tryz.prog 36 #[.pointer (some ⟨K, 0, none⟩), .int .i64 id] w fun e w' => e = .returned (.int .i64 id) ∧ w' = w := by
  go_enter Tryz.func36, Tryz.ntmps36
  go_wp2
  refine wp_loop_rounds 1 ?_
  rw [rounds_succ]
  go_wp2
  go_ret
  exact ⟨rfl, rfl⟩
theorem openingsGrow_0 (K : Nat) (id t : Int) (w : World) (h : w.cell? ⟨K, 20, none⟩ = some (.slice none 0 0)) : Calls Tryz.prog 70 #[.pointer (some ⟨K, 0, none⟩), .int .i64 id, .int .i64 t] w fun e w' => e = .returned (.int .i64 id) ∧ w' = w := by
  go_enter Tryz.func70, Tryz.ntmps70
  go_wp2
  refine wp_loop_rounds 1 ?_
  rw [rounds_succ]
  go_wp2
  go_ret
  exact ⟨rfl, rfl⟩
theorem openingsHold_0 (K : Nat) (id : Int) (w : World) (h : w.cell? ⟨K, 20, none⟩ = some (.slice none 0 0)) : Calls Tryz.prog 53 #[.pointer (some ⟨K, 0, none⟩), .int .i64 id] w fun e w' => e = .returned (.tuple #[.int .i64 id, .bool true]) ∧ w' = w := by
  go_enter Tryz.func53, Tryz.ntmps53
  go_wp2
  refine wp_loop_rounds 1 ?_
  rw [rounds_succ]
  go_wp2
  go_ret2
  exact ⟨rfl, rfl⟩
theorem peersWrite_0 (K : Nat) (id : Int) (w : World) (h : w.cell? ⟨K, 23, none⟩ = some (.slice none 0 0)) : Calls Tryz.prog 37 #[.pointer (some ⟨K, 0, none⟩), .int .i64 id] w fun e w' => e = .returned (.int .i64 id) ∧ w' = w := by
  go_enter Tryz.func37, Tryz.ntmps37
  go_wp2
  refine wp_loop_rounds 1 ?_
  rw [rounds_succ]
  go_wp2
  go_ret
  exact ⟨rfl, rfl⟩
theorem peersGrow_0 (K : Nat) (id t : Int) (w : World) (h : w.cell? ⟨K, 23, none⟩ = some (.slice none 0 0)) : Calls Tryz.prog 71 #[.pointer (some ⟨K, 0, none⟩), .int .i64 id, .int .i64 t] w fun e w' => e = .returned (.int .i64 id) ∧ w' = w := by
  go_enter Tryz.func71, Tryz.ntmps71
  go_wp2
  refine wp_loop_rounds 1 ?_
  rw [rounds_succ]
  go_wp2
  go_ret
  exact ⟨rfl, rfl⟩
theorem peersHold_0 (K : Nat) (id : Int) (w : World) (h : w.cell? ⟨K, 23, none⟩ = some (.slice none 0 0)) : Calls Tryz.prog 54 #[.pointer (some ⟨K, 0, none⟩), .int .i64 id] w fun e w' => e = .returned (.tuple #[.int .i64 id, .bool true]) ∧ w' = w := by
  go_enter Tryz.func54, Tryz.ntmps54
  go_wp2
  refine wp_loop_rounds 1 ?_
  rw [rounds_succ]
  go_wp2
  go_ret2
  exact ⟨rfl, rfl⟩
theorem lanesWrite_0 (K : Nat) (id : Int) (w : World) (h : w.cell? ⟨K, 26, none⟩ = some (.slice none 0 0)) : Calls Tryz.prog 38 #[.pointer (some ⟨K, 0, none⟩), .int .i64 id] w fun e w' => e = .returned (.int .i64 id) ∧ w' = w := by
  go_enter Tryz.func38, Tryz.ntmps38
  go_wp2
  refine wp_loop_rounds 1 ?_
  rw [rounds_succ]
  go_wp2
  go_ret
  exact ⟨rfl, rfl⟩
theorem lanesGrow_0 (K : Nat) (id t : Int) (w : World) (h : w.cell? ⟨K, 26, none⟩ = some (.slice none 0 0)) : Calls Tryz.prog 72 #[.pointer (some ⟨K, 0, none⟩), .int .i64 id, .int .i64 t] w fun e w' => e = .returned (.int .i64 id) ∧ w' = w := by
  go_enter Tryz.func72, Tryz.ntmps72
  go_wp2
  refine wp_loop_rounds 1 ?_
  rw [rounds_succ]
  go_wp2
  go_ret
  exact ⟨rfl, rfl⟩
theorem lanesHold_0 (K : Nat) (id : Int) (w : World) (h : w.cell? ⟨K, 26, none⟩ = some (.slice none 0 0)) : Calls Tryz.prog 55 #[.pointer (some ⟨K, 0, none⟩), .int .i64 id] w fun e w' => e = .returned (.tuple #[.int .i64 id, .bool true]) ∧ w' = w := by
  go_enter Tryz.func55, Tryz.ntmps55
  go_wp2
  refine wp_loop_rounds 1 ?_
  rw [rounds_succ]
  go_wp2
  go_ret2
  exact ⟨rfl, rfl⟩
theorem rowsWrite_0 (K : Nat) (id : Int) (w : World) (h : w.cell? ⟨K, 29, none⟩ = some (.slice none 0 0)) : Calls Tryz.prog 39 #[.pointer (some ⟨K, 0, none⟩), .int .i64 id] w fun e w' => e = .returned (.int .i64 id) ∧ w' = w := by
  go_enter Tryz.func39, Tryz.ntmps39
  go_wp2
  refine wp_loop_rounds 1 ?_
  rw [rounds_succ]
  go_wp2
  go_ret
  exact ⟨rfl, rfl⟩
theorem rowsGrow_0 (K : Nat) (id t : Int) (w : World) (h : w.cell? ⟨K, 29, none⟩ = some (.slice none 0 0)) : Calls Tryz.prog 73 #[.pointer (some ⟨K, 0, none⟩), .int .i64 id, .int .i64 t] w fun e w' => e = .returned (.int .i64 id) ∧ w' = w := by
  go_enter Tryz.func73, Tryz.ntmps73
  go_wp2
  refine wp_loop_rounds 1 ?_
  rw [rounds_succ]
  go_wp2
  go_ret
  exact ⟨rfl, rfl⟩
theorem rowsHold_0 (K : Nat) (id : Int) (w : World) (h : w.cell? ⟨K, 29, none⟩ = some (.slice none 0 0)) : Calls Tryz.prog 56 #[.pointer (some ⟨K, 0, none⟩), .int .i64 id] w fun e w' => e = .returned (.tuple #[.int .i64 id, .bool true]) ∧ w' = w := by
  go_enter Tryz.func56, Tryz.ntmps56
  go_wp2
  refine wp_loop_rounds 1 ?_
  rw [rounds_succ]
  go_wp2
  go_ret2
  exact ⟨rfl, rfl⟩
theorem setsWrite_0 (K : Nat) (id : Int) (w : World) (h : w.cell? ⟨K, 32, none⟩ = some (.slice none 0 0)) : Calls Tryz.prog 40 #[.pointer (some ⟨K, 0, none⟩), .int .i64 id] w fun e w' => e = .returned (.int .i64 id) ∧ w' = w := by
  go_enter Tryz.func40, Tryz.ntmps40
  go_wp2
  refine wp_loop_rounds 1 ?_
  rw [rounds_succ]
  go_wp2
  go_ret
  exact ⟨rfl, rfl⟩
theorem setsGrow_0 (K : Nat) (id t : Int) (w : World) (h : w.cell? ⟨K, 32, none⟩ = some (.slice none 0 0)) : Calls Tryz.prog 74 #[.pointer (some ⟨K, 0, none⟩), .int .i64 id, .int .i64 t] w fun e w' => e = .returned (.int .i64 id) ∧ w' = w := by
  go_enter Tryz.func74, Tryz.ntmps74
  go_wp2
  refine wp_loop_rounds 1 ?_
  rw [rounds_succ]
  go_wp2
  go_ret
  exact ⟨rfl, rfl⟩
theorem setsHold_0 (K : Nat) (id : Int) (w : World) (h : w.cell? ⟨K, 32, none⟩ = some (.slice none 0 0)) : Calls Tryz.prog 57 #[.pointer (some ⟨K, 0, none⟩), .int .i64 id] w fun e w' => e = .returned (.tuple #[.int .i64 id, .bool true]) ∧ w' = w := by
  go_enter Tryz.func57, Tryz.ntmps57
  go_wp2
  refine wp_loop_rounds 1 ?_
  rw [rounds_succ]
  go_wp2
  go_ret2
  exact ⟨rfl, rfl⟩
theorem pendingsWrite_0 (K : Nat) (id : Int) (w : World) (h : w.cell? ⟨K, 35, none⟩ = some (.slice none 0 0)) : Calls Tryz.prog 41 #[.pointer (some ⟨K, 0, none⟩), .int .i64 id] w fun e w' => e = .returned (.int .i64 id) ∧ w' = w := by
  go_enter Tryz.func41, Tryz.ntmps41
  go_wp2
  refine wp_loop_rounds 1 ?_
  rw [rounds_succ]
  go_wp2
  go_ret
  exact ⟨rfl, rfl⟩
theorem pendingsGrow_0 (K : Nat) (id t : Int) (w : World) (h : w.cell? ⟨K, 35, none⟩ = some (.slice none 0 0)) : Calls Tryz.prog 75 #[.pointer (some ⟨K, 0, none⟩), .int .i64 id, .int .i64 t] w fun e w' => e = .returned (.int .i64 id) ∧ w' = w := by
  go_enter Tryz.func75, Tryz.ntmps75
  go_wp2
  refine wp_loop_rounds 1 ?_
  rw [rounds_succ]
  go_wp2
  go_ret
  exact ⟨rfl, rfl⟩
theorem pendingsHold_0 (K : Nat) (id : Int) (w : World) (h : w.cell? ⟨K, 35, none⟩ = some (.slice none 0 0)) : Calls Tryz.prog 58 #[.pointer (some ⟨K, 0, none⟩), .int .i64 id] w fun e w' => e = .returned (.tuple #[.int .i64 id, .bool true]) ∧ w' = w := by
  go_enter Tryz.func58, Tryz.ntmps58
  go_wp2
  refine wp_loop_rounds 1 ?_
  rw [rounds_succ]
  go_wp2
  go_ret2
  exact ⟨rfl, rfl⟩
theorem changesWrite_0 (K : Nat) (id : Int) (w : World) (h : w.cell? ⟨K, 38, none⟩ = some (.slice none 0 0)) : Calls Tryz.prog 42 #[.pointer (some ⟨K, 0, none⟩), .int .i64 id] w fun e w' => e = .returned (.int .i64 id) ∧ w' = w := by
  go_enter Tryz.func42, Tryz.ntmps42
  go_wp2
  refine wp_loop_rounds 1 ?_
  rw [rounds_succ]
  go_wp2
  go_ret
  exact ⟨rfl, rfl⟩
theorem changesGrow_0 (K : Nat) (id t : Int) (w : World) (h : w.cell? ⟨K, 38, none⟩ = some (.slice none 0 0)) : Calls Tryz.prog 76 #[.pointer (some ⟨K, 0, none⟩), .int .i64 id, .int .i64 t] w fun e w' => e = .returned (.int .i64 id) ∧ w' = w := by
  go_enter Tryz.func76, Tryz.ntmps76
  go_wp2
  refine wp_loop_rounds 1 ?_
  rw [rounds_succ]
  go_wp2
  go_ret
  exact ⟨rfl, rfl⟩
theorem changesHold_0 (K : Nat) (id : Int) (w : World) (h : w.cell? ⟨K, 38, none⟩ = some (.slice none 0 0)) : Calls Tryz.prog 59 #[.pointer (some ⟨K, 0, none⟩), .int .i64 id] w fun e w' => e = .returned (.tuple #[.int .i64 id, .bool true]) ∧ w' = w := by
  go_enter Tryz.func59, Tryz.ntmps59
  go_wp2
  refine wp_loop_rounds 1 ?_
  rw [rounds_succ]
  go_wp2
  go_ret2
  exact ⟨rfl, rfl⟩
theorem faultsWrite_0 (K : Nat) (id : Int) (w : World) (h : w.cell? ⟨K, 41, none⟩ = some (.slice none 0 0)) : Calls Tryz.prog 43 #[.pointer (some ⟨K, 0, none⟩), .int .i64 id] w fun e w' => e = .returned (.int .i64 id) ∧ w' = w := by
  go_enter Tryz.func43, Tryz.ntmps43
  go_wp2
  refine wp_loop_rounds 1 ?_
  rw [rounds_succ]
  go_wp2
  go_ret
  exact ⟨rfl, rfl⟩
theorem faultsGrow_0 (K : Nat) (id t : Int) (w : World) (h : w.cell? ⟨K, 41, none⟩ = some (.slice none 0 0)) : Calls Tryz.prog 77 #[.pointer (some ⟨K, 0, none⟩), .int .i64 id, .int .i64 t] w fun e w' => e = .returned (.int .i64 id) ∧ w' = w := by
  go_enter Tryz.func77, Tryz.ntmps77
  go_wp2
  refine wp_loop_rounds 1 ?_
  rw [rounds_succ]
  go_wp2
  go_ret
  exact ⟨rfl, rfl⟩
theorem faultsHold_0 (K : Nat) (id : Int) (w : World) (h : w.cell? ⟨K, 41, none⟩ = some (.slice none 0 0)) : Calls Tryz.prog 60 #[.pointer (some ⟨K, 0, none⟩), .int .i64 id] w fun e w' => e = .returned (.tuple #[.int .i64 id, .bool true]) ∧ w' = w := by
  go_enter Tryz.func60, Tryz.ntmps60
  go_wp2
  refine wp_loop_rounds 1 ?_
  rw [rounds_succ]
  go_wp2
  go_ret2
  exact ⟨rfl, rfl⟩
theorem flightsWrite_0 (K : Nat) (id : Int) (w : World) (h : w.cell? ⟨K, 44, none⟩ = some (.slice none 0 0)) : Calls Tryz.prog 44 #[.pointer (some ⟨K, 0, none⟩), .int .i64 id] w fun e w' => e = .returned (.int .i64 id) ∧ w' = w := by
  go_enter Tryz.func44, Tryz.ntmps44
  go_wp2
  refine wp_loop_rounds 1 ?_
  rw [rounds_succ]
  go_wp2
  go_ret
  exact ⟨rfl, rfl⟩
theorem flightsGrow_0 (K : Nat) (id t : Int) (w : World) (h : w.cell? ⟨K, 44, none⟩ = some (.slice none 0 0)) : Calls Tryz.prog 78 #[.pointer (some ⟨K, 0, none⟩), .int .i64 id, .int .i64 t] w fun e w' => e = .returned (.int .i64 id) ∧ w' = w := by
  go_enter Tryz.func78, Tryz.ntmps78
  go_wp2
  refine wp_loop_rounds 1 ?_
  rw [rounds_succ]
  go_wp2
  go_ret
  exact ⟨rfl, rfl⟩
theorem flightsHold_0 (K : Nat) (id : Int) (w : World) (h : w.cell? ⟨K, 44, none⟩ = some (.slice none 0 0)) : Calls Tryz.prog 61 #[.pointer (some ⟨K, 0, none⟩), .int .i64 id] w fun e w' => e = .returned (.tuple #[.int .i64 id, .bool true]) ∧ w' = w := by
  go_enter Tryz.func61, Tryz.ntmps61
  go_wp2
  refine wp_loop_rounds 1 ?_
  rw [rounds_succ]
  go_wp2
  go_ret2
  exact ⟨rfl, rfl⟩
theorem opsWrite_0 (K : Nat) (id : Int) (w : World) (h : w.cell? ⟨K, 47, none⟩ = some (.slice none 0 0)) : Calls Tryz.prog 45 #[.pointer (some ⟨K, 0, none⟩), .int .i64 id] w fun e w' => e = .returned (.int .i64 id) ∧ w' = w := by
  go_enter Tryz.func45, Tryz.ntmps45
  go_wp2
  refine wp_loop_rounds 1 ?_
  rw [rounds_succ]
  go_wp2
  go_ret
  exact ⟨rfl, rfl⟩
theorem opsGrow_0 (K : Nat) (id t : Int) (w : World) (h : w.cell? ⟨K, 47, none⟩ = some (.slice none 0 0)) : Calls Tryz.prog 79 #[.pointer (some ⟨K, 0, none⟩), .int .i64 id, .int .i64 t] w fun e w' => e = .returned (.int .i64 id) ∧ w' = w := by
  go_enter Tryz.func79, Tryz.ntmps79
  go_wp2
  refine wp_loop_rounds 1 ?_
  rw [rounds_succ]
  go_wp2
  go_ret
  exact ⟨rfl, rfl⟩
theorem opsHold_0 (K : Nat) (id : Int) (w : World) (h : w.cell? ⟨K, 47, none⟩ = some (.slice none 0 0)) : Calls Tryz.prog 62 #[.pointer (some ⟨K, 0, none⟩), .int .i64 id] w fun e w' => e = .returned (.tuple #[.int .i64 id, .bool true]) ∧ w' = w := by
  go_enter Tryz.func62, Tryz.ntmps62
  go_wp2
  refine wp_loop_rounds 1 ?_
  rw [rounds_succ]
  go_wp2
  go_ret2
  exact ⟨rfl, rfl⟩
theorem eventsWrite_0 (K : Nat) (id : Int) (w : World) (h : w.cell? ⟨K, 50, none⟩ = some (.slice none 0 0)) : Calls Tryz.prog 46 #[.pointer (some ⟨K, 0, none⟩), .int .i64 id] w fun e w' => e = .returned (.int .i64 id) ∧ w' = w := by
  go_enter Tryz.func46, Tryz.ntmps46
  go_wp2
  refine wp_loop_rounds 1 ?_
  rw [rounds_succ]
  go_wp2
  go_ret
  exact ⟨rfl, rfl⟩
theorem eventsGrow_0 (K : Nat) (id t : Int) (w : World) (h : w.cell? ⟨K, 50, none⟩ = some (.slice none 0 0)) : Calls Tryz.prog 80 #[.pointer (some ⟨K, 0, none⟩), .int .i64 id, .int .i64 t] w fun e w' => e = .returned (.int .i64 id) ∧ w' = w := by
  go_enter Tryz.func80, Tryz.ntmps80
  go_wp2
  refine wp_loop_rounds 1 ?_
  rw [rounds_succ]
  go_wp2
  go_ret
  exact ⟨rfl, rfl⟩
theorem eventsHold_0 (K : Nat) (id : Int) (w : World) (h : w.cell? ⟨K, 50, none⟩ = some (.slice none 0 0)) : Calls Tryz.prog 63 #[.pointer (some ⟨K, 0, none⟩), .int .i64 id] w fun e w' => e = .returned (.tuple #[.int .i64 id, .bool true]) ∧ w' = w := by
  go_enter Tryz.func63, Tryz.ntmps63
  go_wp2
  refine wp_loop_rounds 1 ?_
  rw [rounds_succ]
  go_wp2
  go_ret2
  exact ⟨rfl, rfl⟩

end Go.Proofs.YtdpcmokemjfelaaGreatDoor.Kp

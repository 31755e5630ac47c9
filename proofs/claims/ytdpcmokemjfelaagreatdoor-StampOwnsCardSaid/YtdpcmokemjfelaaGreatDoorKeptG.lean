/- Contracts: a book is written over, and asked. -/
import Derived.Test.YtdpcmokemjfelaaGreatDoorKeptF
namespace Go.Proofs.YtdpcmokemjfelaaGreatDoor.Kp
open Go.RowKit Go.Proofs.YtdpcmokemjfelaaGreatDoor.Wd Go.Proofs.YtdpcmokemjfelaaGreatDoor.Px Go.Proofs.YtdpcmokemjfelaaGreatDoor.By Go.Proofs.YtdpcmokemjfelaaGreatDoor.Pf

/-- each list shows the marks of its number -/
def Shm (p : Nat) (vs : List Value) (W : World) : Prop := ∀ (q : Nat) (v : Value), vs[q]? = some v → ∃ A m c, v = .slice A m c ∧ m ≤ 1000 ∧ Shows cel W W.heap.size A (marks p (q + 1) m)
theorem Shm.on {p : Nat} {vs : List Value} {W W' : World} (h : Shm p vs W) (hb : Below W.heap.size W W') : Shm p vs W' := fun q v hv => by
  obtain ⟨A, m, c, e, h1, h2⟩ := h q v hv
  exact ⟨A, m, c, e, h1, h2.on hb⟩
theorem Shm.of {B p : Nat} {vs : List Value} {cs ds : List (List UInt8)} {W : World} (h : Rws B vs ds W) (hw : Wn p cs vs.length 0 ds) (hl : ∀ c ∈ cs, c.length ≤ 900) : Shm p vs W := fun q v hv => by
  have hq : q < vs.length := (List.getElem?_eq_some_iff.1 hv).1
  obtain ⟨c, hc⟩ : ∃ c, cs[q]? = some c := ⟨_, List.getElem?_eq_getElem (by rw [← hw.1, ← h.len]; exact hq)⟩
  obtain ⟨d, hd, hdl, hm, -⟩ := hw.2 q c hc
  have ho := h.own q v d hv hd
  obtain ⟨A, k, rfl⟩ := own_slice ho
  refine ⟨A, d.length, k, rfl, by have := hl c (List.mem_of_getElem? hc); omega, ?_⟩
  have hs : Shows cel W W.heap.size A d := Shows.of_own (base := B) (e := 5) ho
  have e := hm hq
  rw [hdl, ← e]
  exact hs

set_option maxRecDepth 20000 in
set_option maxHeartbeats 2000000 in
theorem bhold_any (B K p : Nat) (v0 v1 v2 : Value) (vs us gs : List Value) (w : World) (hco : Cor B K p v0 v1 v2 vs us gs w) (hp : p ≤ 1) (hs : Shm p vs w) (hg : Shm p gs w) (hn : vs.length ≤ 900) :
    Calls Tryz.prog 47 #[.pointer (some ⟨K, 0, none⟩), .int .i64 0] w fun e w' => e = .returned (.tuple #[.int .i64 (vs.length : Int), .bool true]) ∧ w' = w := by
  obtain ⟨n, hnn⟩ : ∃ n, vs.length = n := ⟨_, rfl⟩
  obtain ⟨m, hmm⟩ : ∃ m, gs.length = m := ⟨_, rfl⟩
  have o0 := hco.o0
  have o2 := hco.o2
  rw [hnn] at hn o0 ⊢
  rw [hmm] at o2
  have HN := Lib.hid hnn
  have HM := Lib.hid hmm
  obtain ⟨A0, k0, rfl⟩ := own_slice o0
  obtain ⟨A2, k2, rfl⟩ := own_slice o2
  have c1 := hco.bk.c1
  have c2 := hco.bk.c2
  have c4 := hco.bk.c4
  clear hnn hmm
  go_enter Tryz.func47, Tryz.ntmps47
  go_wp2
  go_loopw [1, 6, 7] (fun id al i wr => wr = w ∧ ∃ q : Nat, q ≤ n ∧ id = .int .i64 (q : Int) ∧ al = .bool true ∧ i = .int .i64 (q : Int)) (fun _ _ i _ => n - (intOf i).toNat)
  case atStart => exact ⟨rfl, 0, Nat.zero_le _, rfl, rfl, rfl⟩
  case round =>
    obtain ⟨rfl, q, hq, rfl, rfl, rfl⟩ := hrel
    by_cases hlt : q < n
    · have i1 : (q : Int) < (n : Int) := by omega
      have iw : IntKind.i64.wrap ((q : Int) + 1) = ((q + 1 : Nat) : Int) := by rw [IntWalk.i64_in _ ⟨by omega, by omega⟩]; simp
      obtain ⟨g0, q0, x0, e0, hx0, cx0, -⟩ := own_at o0 HN.out q hlt
      injection e0 with e0 _ e0'
      subst e0 e0'
      obtain ⟨Ax, mx, kx, rfl, hmx, hsx⟩ := hs q x0 hx0
      have hc1 := Lib.hid (bytesshow_any K p (q + 1) mx kx Ax wr c1 hp (by omega) hmx hsx)
      by_cases hgm : q < m
      · have i2 : (q : Int) < (m : Int) := by omega
        obtain ⟨g2, q2, x2, e2, hx2, cx2, -⟩ := own_at o2 HM.out q hgm
        injection e2 with e2 _ e2'
        subst e2 e2'
        obtain ⟨Ay, my, ky, rfl, hmy, hsy⟩ := hg q x2 hx2
        have hc2 := Lib.hid (bytesshow_any K p (q + 1) my ky Ay wr c1 hp (by omega) hmy hsy)
        clear hsx hsy hx0 hx2
        go_wp2_with fail
        refine hc1.out.mono ?_
        rintro e w2 ⟨rfl, rfl⟩
        go_wp2_with fail
        refine hc2.out.mono ?_
        rintro e w2 ⟨rfl, rfl⟩
        go_wp2
        go_roundw
        case rel => exact ⟨trivial, q + 1, by omega, by go_num, rfl, by go_num⟩
        case measure => simp [intOf]; omega
      · have i2 : ¬ (q : Int) < (m : Int) := by omega
        clear hsx hx0
        go_wp2_with fail
        refine hc1.out.mono ?_
        rintro e w2 ⟨rfl, rfl⟩
        go_wp2
        go_roundw
        case rel => exact ⟨trivial, q + 1, by omega, by go_num, rfl, by go_num⟩
        case measure => simp [intOf]; omega
    · obtain rfl : q = n := by omega
      have i1 : ¬ (q : Int) < (q : Int) := by omega
      go_wp2
      go_ret2
      exact ⟨rfl, rfl⟩

set_option maxRecDepth 20000 in
set_option maxHeartbeats 4000000 in
theorem holds_any (B K p : Nat) (v0 v1 v2 : Value) (vs us gs : List Value) (w : World) (hco : Cor B K p v0 v1 v2 vs us gs w) (hp : p ≤ 1) (hs : Shm p vs w) (hg : Shm p gs w) (hn : vs.length ≤ 900) :
    Calls Tryz.prog 23 #[.pointer (some ⟨K, 0, none⟩)] w fun e w' => e = .returned (.bool true) ∧ w' = w := by
  have hb := bhold_any B K p v0 v1 v2 vs us gs w hco hp hs hg hn
  have c0 := hco.bk.c0
  have n_bools := hco.bk.nn 5 (by omega) (by omega)
  have n_ints := hco.bk.nn 8 (by omega) (by omega)
  have n_texts := hco.bk.nn 11 (by omega) (by omega)
  have n_byteLists := hco.bk.nn 14 (by omega) (by omega)
  have n_prefixes := hco.bk.nn 17 (by omega) (by omega)
  have n_openings := hco.bk.nn 20 (by omega) (by omega)
  have n_peers := hco.bk.nn 23 (by omega) (by omega)
  have n_lanes := hco.bk.nn 26 (by omega) (by omega)
  have n_rows := hco.bk.nn 29 (by omega) (by omega)
  have n_sets := hco.bk.nn 32 (by omega) (by omega)
  have n_pendings := hco.bk.nn 35 (by omega) (by omega)
  have n_changes := hco.bk.nn 38 (by omega) (by omega)
  have n_faults := hco.bk.nn 41 (by omega) (by omega)
  have n_flights := hco.bk.nn 44 (by omega) (by omega)
  have n_ops := hco.bk.nn 47 (by omega) (by omega)
  have n_events := hco.bk.nn 50 (by omega) (by omega)
  clear hco hs hg hn
  generalize vs.length = n at hb
  have HB := Lib.hid hb
  clear hb
  go_enter Tryz.func23, Tryz.ntmps23
  go_wp2_with fail
  refine HB.out.mono ?_
  rintro e w1 ⟨rfl, rfl⟩
  go_wp2_with fail
  refine (boolsHold_0 K (n : Int) _ n_bools).mono ?_
  rintro e w1 ⟨rfl, rfl⟩
  go_wp2_with fail
  refine (intsHold_0 K (n : Int) _ n_ints).mono ?_
  rintro e w1 ⟨rfl, rfl⟩
  go_wp2_with fail
  refine (textsHold_0 K (n : Int) _ n_texts).mono ?_
  rintro e w1 ⟨rfl, rfl⟩
  go_wp2_with fail
  refine (byteListsHold_0 K (n : Int) _ n_byteLists).mono ?_
  rintro e w1 ⟨rfl, rfl⟩
  go_wp2_with fail
  refine (prefixesHold_0 K (n : Int) _ n_prefixes).mono ?_
  rintro e w1 ⟨rfl, rfl⟩
  go_wp2_with fail
  refine (openingsHold_0 K (n : Int) _ n_openings).mono ?_
  rintro e w1 ⟨rfl, rfl⟩
  go_wp2_with fail
  refine (peersHold_0 K (n : Int) _ n_peers).mono ?_
  rintro e w1 ⟨rfl, rfl⟩
  go_wp2_with fail
  refine (lanesHold_0 K (n : Int) _ n_lanes).mono ?_
  rintro e w1 ⟨rfl, rfl⟩
  go_wp2_with fail
  refine (rowsHold_0 K (n : Int) _ n_rows).mono ?_
  rintro e w1 ⟨rfl, rfl⟩
  go_wp2_with fail
  refine (setsHold_0 K (n : Int) _ n_sets).mono ?_
  rintro e w1 ⟨rfl, rfl⟩
  go_wp2_with fail
  refine (pendingsHold_0 K (n : Int) _ n_pendings).mono ?_
  rintro e w1 ⟨rfl, rfl⟩
  go_wp2_with fail
  refine (changesHold_0 K (n : Int) _ n_changes).mono ?_
  rintro e w1 ⟨rfl, rfl⟩
  go_wp2_with fail
  refine (faultsHold_0 K (n : Int) _ n_faults).mono ?_
  rintro e w1 ⟨rfl, rfl⟩
  go_wp2_with fail
  refine (flightsHold_0 K (n : Int) _ n_flights).mono ?_
  rintro e w1 ⟨rfl, rfl⟩
  go_wp2_with fail
  refine (opsHold_0 K (n : Int) _ n_ops).mono ?_
  rintro e w1 ⟨rfl, rfl⟩
  go_wp2_with fail
  refine (eventsHold_0 K (n : Int) _ n_events).mono ?_
  rintro e w1 ⟨rfl, rfl⟩
  go_wp2
  go_ret
  exact ⟨rfl, rfl⟩

set_option maxRecDepth 20000 in
set_option maxHeartbeats 4000000 in
theorem write_any (B K p : Nat) (vs : List Value) (cs : List (List UInt8)) (w : World) (h : BkC B K p vs cs w) (hp : p ≤ 1) (hl : ∀ c ∈ cs, c.length ≤ 900) (hn : vs.length ≤ 900) :
    Calls Tryz.prog 22 #[.pointer (some ⟨K, 0, none⟩)] w fun e w' => e = .returned (.tuple #[]) ∧ ∃ ds, BkC B K p vs ds w' ∧ Wn p cs vs.length 0 ds ∧ FrK K w w' := by
  have hb := Lib.hid (bwrite_any B K p vs cs w h hp hl hn)
  have c0 : w.cell? ⟨K, 0, none⟩ = some (.int .i64 0) := by obtain ⟨⟨v0, v1, us, hco⟩, -, -⟩ := h; exact hco.bk.c0
  clear h hl hn
  go_enter Tryz.func22, Tryz.ntmps22
  go_wp2_with fail
  refine hb.out.mono ?_
  rintro e w1 ⟨rfl, ds, hB, hW, hF⟩
  have nnB : ∀ o, 5 ≤ o → o < 53 → w1.cell? ⟨K, o, none⟩ = some (.slice none 0 0) := by obtain ⟨⟨v0, v1, us, hco⟩, -, -⟩ := hB; exact hco.bk.nn
  have n_bools := nnB 5 (by omega) (by omega)
  have n_ints := nnB 8 (by omega) (by omega)
  have n_texts := nnB 11 (by omega) (by omega)
  have n_byteLists := nnB 14 (by omega) (by omega)
  have n_prefixes := nnB 17 (by omega) (by omega)
  have n_openings := nnB 20 (by omega) (by omega)
  have n_peers := nnB 23 (by omega) (by omega)
  have n_lanes := nnB 26 (by omega) (by omega)
  have n_rows := nnB 29 (by omega) (by omega)
  have n_sets := nnB 32 (by omega) (by omega)
  have n_pendings := nnB 35 (by omega) (by omega)
  have n_changes := nnB 38 (by omega) (by omega)
  have n_faults := nnB 41 (by omega) (by omega)
  have n_flights := nnB 44 (by omega) (by omega)
  have n_ops := nnB 47 (by omega) (by omega)
  have n_events := nnB 50 (by omega) (by omega)
  have HB := Lib.hid hB
  have HW := Lib.hid hW
  have HF := Lib.hid hF
  clear hB hW hF nnB hb c0
  generalize hnl : vs.length = n at HW ⊢
  go_wp2_with fail
  refine (boolsWrite_0 K (n : Int) _ n_bools).mono ?_
  rintro e w1 ⟨rfl, rfl⟩
  go_wp2_with fail
  refine (intsWrite_0 K (n : Int) _ n_ints).mono ?_
  rintro e w1 ⟨rfl, rfl⟩
  go_wp2_with fail
  refine (textsWrite_0 K (n : Int) _ n_texts).mono ?_
  rintro e w1 ⟨rfl, rfl⟩
  go_wp2_with fail
  refine (byteListsWrite_0 K (n : Int) _ n_byteLists).mono ?_
  rintro e w1 ⟨rfl, rfl⟩
  go_wp2_with fail
  refine (prefixesWrite_0 K (n : Int) _ n_prefixes).mono ?_
  rintro e w1 ⟨rfl, rfl⟩
  go_wp2_with fail
  refine (openingsWrite_0 K (n : Int) _ n_openings).mono ?_
  rintro e w1 ⟨rfl, rfl⟩
  go_wp2_with fail
  refine (peersWrite_0 K (n : Int) _ n_peers).mono ?_
  rintro e w1 ⟨rfl, rfl⟩
  go_wp2_with fail
  refine (lanesWrite_0 K (n : Int) _ n_lanes).mono ?_
  rintro e w1 ⟨rfl, rfl⟩
  go_wp2_with fail
  refine (rowsWrite_0 K (n : Int) _ n_rows).mono ?_
  rintro e w1 ⟨rfl, rfl⟩
  go_wp2_with fail
  refine (setsWrite_0 K (n : Int) _ n_sets).mono ?_
  rintro e w1 ⟨rfl, rfl⟩
  go_wp2_with fail
  refine (pendingsWrite_0 K (n : Int) _ n_pendings).mono ?_
  rintro e w1 ⟨rfl, rfl⟩
  go_wp2_with fail
  refine (changesWrite_0 K (n : Int) _ n_changes).mono ?_
  rintro e w1 ⟨rfl, rfl⟩
  go_wp2_with fail
  refine (faultsWrite_0 K (n : Int) _ n_faults).mono ?_
  rintro e w1 ⟨rfl, rfl⟩
  go_wp2_with fail
  refine (flightsWrite_0 K (n : Int) _ n_flights).mono ?_
  rintro e w1 ⟨rfl, rfl⟩
  go_wp2_with fail
  refine (opsWrite_0 K (n : Int) _ n_ops).mono ?_
  rintro e w1 ⟨rfl, rfl⟩
  go_wp2_with fail
  refine (eventsWrite_0 K (n : Int) _ n_events).mono ?_
  rintro e w1 ⟨rfl, rfl⟩
  go_wp2
  go_end0
  exact ⟨rfl, ds, HB.out, by rw [hnl]; exact HW.out, HF.out⟩

end Go.Proofs.YtdpcmokemjfelaaGreatDoor.Kp

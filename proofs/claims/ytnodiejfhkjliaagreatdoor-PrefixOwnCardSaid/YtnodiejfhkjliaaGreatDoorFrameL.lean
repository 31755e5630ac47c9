/- An argument that is a list of prefixes: opened. -/
import Derived.Test.YtnodiejfhkjliaaGreatDoorFrameP
import Derived.Test.YtnodiejfhkjliaaGreatDoorPOwnA
import Derived.Deep.Slices
namespace Go.Proofs.YtnodiejfhkjliaaGreatDoor.Fr
open Go.ChangeShapes Go.WideShapes Go.ChangeAt Go.RowKit Go.Deep Go.Proofs.YtnodiejfhkjliaaGreatDoor.En Go.Proofs.YtnodiejfhkjliaaGreatDoor.Wd Go.Proofs.YtnodiejfhkjliaaGreatDoor.Kp

variable {H : Type} {enc : TypeId × Value → H} {W : World} {base : Nat} {sp : Nat → Bool} {held : Bool} {v : Value} {d : DataW H} {p : List MemPlace}

theorem prefix_cells {n : Nat} {cs : List Value} {y : DataW H × List MemPlace} (hl : cs.length = 4) (hf : DataW.trod enc Tryz.prog W base sp held n 50 cs = some y) :
    ∃ q : Int × Nat × Nat × Int, cs = [.int .i64 q.1, .int .u64 (q.2.1 : Int), .int .u64 (q.2.2.1 : Int), .int .i64 q.2.2.2] ∧ q.2.1 < 18446744073709551616 ∧ q.2.2.1 < 18446744073709551616 := by
  match cs, hl with
  | [c0, c1, c2, c3], _ =>
    obtain ⟨y0, y1, m, -, -, h0, h1⟩ := trod_struct2 Tryz.underlying50 hf
    simp only [cA, cI, List.drop_zero, List.take_succ_cons, List.take_zero, List.drop_succ_cons] at h0 h1
    obtain ⟨z0, z1, z2, k, -, -, k0, k1, k2⟩ := Go.Deep.trod_struct3 Tryz.underlying48 h0
    simp only [cI, cU, List.drop_zero, List.take_succ_cons, List.take_zero, List.drop_succ_cons] at k0 k1 k2
    obtain ⟨f, rfl, -⟩ := i64_int k0
    obtain ⟨hi, rfl, b1⟩ := u64_nat k1
    obtain ⟨lo, rfl, b2⟩ := u64_nat k2
    obtain ⟨b, rfl, b3⟩ := i64_int h1
    exact ⟨(f, hi, lo, b), rfl, b1, b2⟩

theorem open_prefixes (hv : ∃ a len cap, v = .slice a len cap) (h : DataW.Trod enc Tryz.prog W base sp held 22 v d p) :
    ∃ (l : List (Int × Nat × Nat × Int)) (a : Option Addr) (cap : Nat), v = .slice a l.length cap ∧ ShowsP W a l ∧ (∀ q ∈ l, q.2.1 < 18446744073709551616 ∧ q.2.2.1 < 18446744073709551616) := by
  obtain ⟨a, len, cap, rfl⟩ := hv
  obtain ⟨fuel, hf⟩ := h
  rcases open_slice Tryz.underlying22 hf with ⟨hcs, hx⟩ | ⟨x, l, c, m, n, D, Pl, hcs, _, hl, hm, hmm, hx, hcell⟩
  · simp [Value.cells] at hcs
    obtain ⟨rfl, rfl, rfl⟩ := hcs
    exact ⟨[], none, 0, rfl, fun h => absurd h (by simp), fun q hq => by simp at hq⟩
  · simp [Value.cells] at hcs
    obtain ⟨rfl, rfl, rfl⟩ := hcs
    have hlm : len ≤ m := by rw [hmm]; split <;> omega
    have each : ∀ i, i < len → ∃ q : Int × Nat × Nat × Int, (W.cell? ((x.add (i * 4)).add 0) = some (.int .i64 q.1) ∧ W.cell? ((x.add (i * 4)).add 1) = some (.int .u64 (q.2.1 : Int)) ∧ W.cell? ((x.add (i * 4)).add 2) = some (.int .u64 (q.2.2.1 : Int)) ∧ W.cell? ((x.add (i * 4)).add 3) = some (.int .i64 q.2.2.2)) ∧ q.2.1 < 18446744073709551616 ∧ q.2.2.1 < 18446744073709551616 := by
      intro i hi
      obtain ⟨cs', h1, h2⟩ := hcell i (by omega)
      rw [cP] at h1
      obtain ⟨_, hlen, hc⟩ := World.cells?_some h1
      obtain ⟨q, rfl, b1, b2⟩ := prefix_cells (by simpa using hlen) h2
      have e0 := hc 0 (by omega)
      have e1 := hc 1 (by omega)
      have e2 := hc 2 (by omega)
      have e3 := hc 3 (by omega)
      exact ⟨q, ⟨by simpa using e0, by simpa using e1, by simpa using e2, by simpa using e3⟩, b1, b2⟩
    obtain ⟨q, hq⟩ := choose_lt each
    have hlen : ((List.range len).map q).length = len := by simp
    refine ⟨(List.range len).map q, some x, cap, by rw [hlen], ?_, ?_⟩
    · intro hpos
      rw [hlen] at hpos
      have hc0 := (hq 0 (by omega)).1.1
      obtain ⟨b, off, spot⟩ := x
      have hspot : spot = none := by simpa [Addr.add] using World.cell?_spot hc0
      subst hspot
      have hadd : ∀ i j, ((⟨b, off, none⟩ : Addr).add i).add j = ⟨b, off + i + j, none⟩ := fun i j => by
        unfold Addr.add
        split <;> split <;> simp_all
      have hadd1 : ∀ i, (⟨b, off, none⟩ : Addr).add i = ⟨b, off + i, none⟩ := fun i => by
        unfold Addr.add
        split <;> simp_all
      refine ⟨b, off, rfl, World.block_lt_of_cell? W _ (by simpa [hadd] using hc0), fun i u hu => ?_⟩
      have hi : i < len := by
        have := (List.getElem?_eq_some_iff.1 hu).1
        rwa [hlen] at this
      rw [List.getElem?_map, List.getElem?_range hi] at hu
      injection hu with hu
      subst hu
      obtain ⟨h0, h1, h2, h3⟩ := (hq i hi).1
      rw [hadd] at h0 h1 h2 h3
      exact ⟨h0, h1, h2, h3⟩
    · intro u hu
      obtain ⟨i, hi, rfl⟩ := List.mem_map.1 hu
      exact (hq i (List.mem_range.1 hi)).2

end Go.Proofs.YtnodiejfhkjliaaGreatDoor.Fr

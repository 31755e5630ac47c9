/- An argument that is a list of stamps. -/
import Derived.Test.YtdpcmokemjfelaaGreatDoorFrame
import Derived.Test.YtdpcmokemjfelaaGreatDoorPlace
import Derived.Deep.SlicePairs
namespace Go.Proofs.YtdpcmokemjfelaaGreatDoor.Fr
open Go.ChangeShapes Go.WideShapes Go.ChangeAt Go.RowKit Go.Deep Go.Proofs.YtdpcmokemjfelaaGreatDoor.En Go.Proofs.YtdpcmokemjfelaaGreatDoor.Wd Go.Proofs.YtdpcmokemjfelaaGreatDoor.St

theorem cStamp : Tryz.prog.cellsOf 47 = 2 := by kernel_rfl
theorem cInt : Tryz.prog.cellsOf 3 = 1 := by kernel_rfl

theorem open_stamps {H : Type} {enc : TypeId × Value → H} {W : World} {base : Nat} {sp : Nat → Bool} {held : Bool} {v : Value} {d : DataW H} {p : List MemPlace}
    (hv : ∃ a len cap, v = .slice a len cap) (h : DataW.Trod enc Tryz.prog W base sp held 22 v d p) :
    ∃ (l : List (Int × Int)) (a : Option Addr) (cap : Nat), v = .slice a l.length cap ∧ ShowsS W a l ∧ (∀ q ∈ l, -9223372036854775808 ≤ q.1 ∧ q.1 ≤ 9223372036854775807 ∧ -9223372036854775808 ≤ q.2 ∧ q.2 ≤ 9223372036854775807) ∧ (l = [] ∨ ∃ el spare, d = .slice el spare ∧ el.length = l.length) := by
  obtain ⟨a, len, cap, rfl⟩ := hv
  obtain ⟨fuel, hf⟩ := h
  rcases open_slice_pairs Tryz.underlying22 Tryz.underlying47 cStamp rfl rfl cInt cInt hf with ⟨hcs, hx⟩ | ⟨x, l, c, m, n, V0, V1, D0, D1, P0, P1, hcs, _, hl, hm, hmm, hx, hcell⟩
  · simp [Value.cells] at hcs
    obtain ⟨rfl, rfl, rfl⟩ := hcs
    exact ⟨[], none, 0, rfl, fun h => absurd h (by simp), fun q hq => by simp at hq, .inl rfl⟩
  · simp [Value.cells] at hcs
    obtain ⟨rfl, rfl, rfl⟩ := hcs
    simp only [Prod.mk.injEq] at hx
    have hlm : len ≤ m := by rw [hmm]; split <;> omega
    have each : ∀ i, i < len → ∃ q : Int × Int, V0 i = .int .i64 q.1 ∧ V1 i = .int .i64 q.2 ∧ (-9223372036854775808 ≤ q.1 ∧ q.1 ≤ 9223372036854775807 ∧ -9223372036854775808 ≤ q.2 ∧ q.2 ≤ 9223372036854775807) := by
      intro i hi
      obtain ⟨_, _, h3, h4⟩ := hcell i (by omega)
      obtain ⟨s, e1, -, w1⟩ := DataW.trod_int Tryz.underlying3 h3
      obtain ⟨t, e2, -, w2⟩ := DataW.trod_int Tryz.underlying3 h4
      simp only [List.cons.injEq, and_true] at e1 e2
      have b1 := bounds_i64 w1
      have b2 := bounds_i64 w2
      exact ⟨(s, t), e1, e2, b1.1, b1.2, b2.1, b2.2⟩
    obtain ⟨q, hq⟩ := choose_lt each
    have hlen : ((List.range len).map q).length = len := by simp
    refine ⟨(List.range len).map q, some x, cap, by rw [hlen], ?_, ?_, .inr ⟨_, _, hx.1, by simp⟩⟩
    · intro hpos
      rw [hlen] at hpos
      have hc0 := (hcell 0 (by omega)).1
      obtain ⟨b, off, spot⟩ := x
      have hspot : spot = none := by simpa [Addr.add] using World.cell?_spot hc0
      subst hspot
      have hadd : ∀ i, (⟨b, off, none⟩ : Addr).add i = ⟨b, off + i, none⟩ := fun i => by
        unfold Addr.add
        split
        · rename_i h0; subst h0; rfl
        · rfl
      refine ⟨b, off, rfl, World.block_lt_of_cell? W _ (by simpa [Addr.add] using hc0), fun i u hu => ?_⟩
      have hi : i < len := by
        have := (List.getElem?_eq_some_iff.1 hu).1
        rwa [hlen] at this
      rw [List.getElem?_map, List.getElem?_range hi] at hu
      injection hu with hu
      subst hu
      obtain ⟨h1, h2, -, -⟩ := hcell i (by omega)
      obtain ⟨e1, e2, -⟩ := hq i hi
      rw [hadd, e1] at h1
      rw [hadd, e2] at h2
      exact ⟨h1, by rw [Nat.add_assoc]; exact h2⟩
    · intro u hu
      obtain ⟨i, hi, rfl⟩ := List.mem_map.1 hu
      exact (hq i (List.mem_range.1 hi)).2.2

end Go.Proofs.YtdpcmokemjfelaaGreatDoor.Fr

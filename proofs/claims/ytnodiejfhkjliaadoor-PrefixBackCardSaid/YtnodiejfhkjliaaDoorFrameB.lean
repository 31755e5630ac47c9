/- An argument that is bytes: opened, with its room and its size. -/
import Derived.Test.YtnodiejfhkjliaaDoorFrame
namespace Go.Proofs.YtnodiejfhkjliaaDoor.Fr
open Go.ChangeShapes Go.WideShapes Go.ChangeAt Go.RowKit Go.Joins Go.Proofs.YtnodiejfhkjliaaDoor.En Go.Proofs.YtnodiejfhkjliaaDoor.Wd
set_option linter.unusedVariables false

/-- an argument that is a list of bytes, its room too -/
theorem open_bytesc {H : Type} {enc : TypeId × Value → H} {W : World} {base : Nat} {sp : Nat → Bool} {held : Bool} {a : Option Addr} {len cap : Nat} {d : DataW H} {p : List MemPlace}
    (h : DataW.Trod enc Tryd.prog W base sp held 31 (.slice a len cap) d p) :
    ∃ l : List UInt8, len = l.length ∧ l.length ≤ cap ∧ Shows cel W W.heap.size a l ∧ (d = .nil ∧ l = [] ∨ ∃ el spare, d = .slice el spare ∧ el.length = l.length) := by
  obtain ⟨fuel, hf⟩ := h
  rcases open_ints Tryd.underlying31 Tryd.underlying5 cBy hf with ⟨hcs, hx⟩ | ⟨x, l, c, zs, hcs, _, hl, hm, hz, hx, hcell, hwz⟩
  · simp [Value.cells] at hcs
    obtain ⟨rfl, rfl, rfl⟩ := hcs
    simp only [Prod.mk.injEq] at hx
    exact ⟨[], rfl, Nat.zero_le _, Shows.nil, .inl ⟨hx.1, rfl⟩⟩
  · simp [Value.cells] at hcs
    obtain ⟨rfl, rfl, rfl⟩ := hcs
    simp only [Prod.mk.injEq] at hx
    have hzl : len ≤ zs.length := by rw [hz]; split <;> omega
    have hlen : ((zs.take len).map fun z => UInt8.ofNat z.toNat).length = len := by simp; omega
    refine ⟨(zs.take len).map fun z => UInt8.ofNat z.toNat, hlen.symm, by rw [hlen]; exact hl, ?_, .inr ⟨_, _, hx.1, by rw [hlen]; unfold lits; rw [List.length_map, List.length_take]; omega⟩⟩
    intro hpos
    rw [hlen] at hpos
    have hc0 := hcell 0 (by omega)
    obtain ⟨b, off, spot⟩ := x
    have hspot : spot = none := by simpa [Addr.add] using World.cell?_spot hc0
    subst hspot
    refine ⟨b, off, rfl, World.block_lt_of_cell? W _ (by simpa [Addr.add] using hc0), fun i u hu => ?_⟩
    have hi : i < len := by
      have := (List.getElem?_eq_some_iff.1 hu).1
      rwa [hlen] at this
    have hci := hcell i (by omega)
    have hadd : (⟨b, off, none⟩ : Addr).add i = ⟨b, off + i, none⟩ := by
      unfold Addr.add
      split
      · rename_i h0; subst h0; rfl
      · rfl
    rw [hadd] at hci
    rw [hci]
    have hg : zs[i]? = some (zs.getD i 0) := by rw [List.getD_eq_getElem?_getD, List.getElem?_eq_getElem (by omega)]; rfl
    have hb := bounds_u8 (hwz (zs.getD i 0) (List.mem_of_getElem? hg))
    rw [List.getElem?_map, List.getElem?_take, if_pos hi, hg, Option.map_some] at hu
    injection hu with hu
    rw [← hu]
    unfold cel
    rw [UInt8.toNat_ofNat', Nat.mod_eq_of_lt (by omega)]
    congr 2
    omega

end Go.Proofs.YtnodiejfhkjliaaDoor.Fr

/- An argument that is a list of texts. -/
import Derived.Test.YtpkmekdpmkfcdaaGreatDoorFrameT
import Derived.SliceStrings
namespace Go.Proofs.YtpkmekdpmkfcdaaGreatDoor.Fr
set_option linter.unusedVariables false
set_option linter.unusedSimpArgs false
open Go.ChangeShapes Go.WideShapes Go.ChangeAt Go.RowKit Go.Proofs.YtpkmekdpmkfcdaaGreatDoor.En Go.Proofs.YtpkmekdpmkfcdaaGreatDoor.Wd Go.Proofs.YtpkmekdpmkfcdaaGreatDoor.Sc Go.Proofs.YtpkmekdpmkfcdaaGreatDoor.Sr
open Go.Proofs.YtpkmekdpmkfcdaaGreatDoor.Pf (strc)
theorem open_texts {H : Type} {enc : TypeId × Value → H} {W : World} {base : Nat} {sp : Nat → Bool} {held : Bool} {a : Option Addr} {len cap : Nat} {d : DataW H} {p : List MemPlace}
  (h : DataW.Trod enc Tryz.prog W base sp held 37 (.slice a len cap) d p) :
  ∃ l : List (List UInt8),len = l.length ∧ Shows strc W W.heap.size a l := by
 obtain ⟨fuel,hf⟩ := h
 rcases open_strings Tryz.underlying37 Tryz.underlying9 cStr hf with ⟨hcs,hx⟩ | ⟨x,l,c,ss,hcs,_,hl,hm,hz,hx,hcell,hwz⟩
 ·simp [Value.cells] at hcs
  obtain ⟨rfl,rfl,rfl⟩ := hcs
  exact ⟨[],rfl,Shows.nil⟩
 ·simp [Value.cells] at hcs
  obtain ⟨rfl,rfl,rfl⟩ := hcs
  have hzl : len ≤ ss.length := by rw [hz];split <;> omega
  have hlen : ((ss.take len).map fun s => s.data.toList).length = len := by simp;omega
  refine ⟨(ss.take len).map fun s => s.data.toList,hlen.symm,?_⟩
  intro hpos
  rw [hlen] at hpos
  have hc0 := hcell 0 (by omega)
  obtain ⟨b,off,spot⟩ := x
  have hspot : spot = none := by simpa [Addr.add] using World.cell?_spot hc0
  subst hspot
  refine ⟨b,off,rfl,World.block_lt_of_cell? W _ (by simpa [Addr.add] using hc0),fun i u hu => ?_⟩
  have hi : i < len := by
   have := (List.getElem?_eq_some_iff.1 hu).1
   rwa [hlen] at this
  have hci := hcell i (by omega)
  have hadd : (⟨b,off,none⟩ : Addr).add i = ⟨b,off + i,none⟩ := by
   unfold Addr.add
   split
   ·rename_i h0;subst h0;rfl
   ·rfl
  rw [hadd] at hci
  rw [hci]
  have hg : ss[i]? = some (ss.getD i ByteArray.empty) := by rw [List.getD_eq_getElem?_getD,List.getElem?_eq_getElem (by omega)];rfl
  rw [List.getElem?_map,List.getElem?_take,if_pos hi,hg,Option.map_some] at hu
  injection hu with hu
  subst hu
  unfold strc
  simp
end Go.Proofs.YtpkmekdpmkfcdaaGreatDoor.Fr

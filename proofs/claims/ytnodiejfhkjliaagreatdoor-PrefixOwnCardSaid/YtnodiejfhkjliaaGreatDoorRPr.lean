/- Contract: two hexadecimal digits, by the reference. Contract: an address's text, by the reference. Contracts: an address's and a prefix's text, by the reference. -/
import Derived.Test.YtnodiejfhkjliaaGreatDoorME
import Derived.Deep.RegionHeld3
import Derived.StillTailTactics
import Derived.Test.YtnodiejfhkjliaaGreatDoorRPutA
import Derived.Test.YtnodiejfhkjliaaGreatDoorRPutB
namespace Go.Proofs.YtnodiejfhkjliaaGreatDoor.Pf
open Go.RowKit Go.Proofs.YtnodiejfhkjliaaGreatDoor.Wd Go.Proofs.YtnodiejfhkjliaaGreatDoor.Px Go.Proofs.YtnodiejfhkjliaaGreatDoor.By Go.Proofs.YtnodiejfhkjliaaGreatDoor.En Go.Proofs.YtnodiejfhkjliaaGreatDoor.Pl

end Go.Proofs.YtnodiejfhkjliaaGreatDoor.Pf

namespace Go.Proofs.YtnodiejfhkjliaaGreatDoor.Pf
open Go.RowKit Go.Proofs.YtnodiejfhkjliaaGreatDoor.Wd Go.Proofs.YtnodiejfhkjliaaGreatDoor.Px Go.Proofs.YtnodiejfhkjliaaGreatDoor.By Go.Proofs.YtnodiejfhkjliaaGreatDoor.En Go.Proofs.YtnodiejfhkjliaaGreatDoor.Pl

/-- the text so far: of four bytes, of sixteen -/
def tx4 (bs : List UInt8) : Nat → List UInt8
  | 0 => []
  | k + 1 => if k = 0 then tx4 bs k ++ Lib.decDigits (bs.getD k 0).toNat else tx4 bs k ++ 46 :: Lib.decDigits (bs.getD k 0).toNat
def tx16 (bs : List UInt8) : Nat → List UInt8
  | 0 => []
  | k + 1 => if k = 0 ∨ k % 2 = 1 then tx16 bs k ++ Px.hx (bs.getD k 0) else tx16 bs k ++ 58 :: Px.hx (bs.getD k 0)
theorem tx4_step (bs : List UInt8) (k : Nat) (h : k < bs.length) : tx4 bs (k + 1) = if k = 0 then tx4 bs k ++ Lib.decDigits bs[k].toNat else tx4 bs k ++ 46 :: Lib.decDigits bs[k].toNat := by
  rw [tx4, List.getD_eq_getElem?_getD, List.getElem?_eq_getElem h]; rfl
theorem tx16_step (bs : List UInt8) (k : Nat) (h : k < bs.length) : tx16 bs (k + 1) = if k = 0 ∨ k % 2 = 1 then tx16 bs k ++ Px.hx bs[k] else tx16 bs k ++ 58 :: Px.hx bs[k] := by
  rw [tx16, List.getD_eq_getElem?_getD, List.getElem?_eq_getElem h]; rfl
theorem tx4_len (bs : List UInt8) : ∀ k, (tx4 bs k).length ≤ 4 * k
  | 0 => Nat.le_refl _
  | k + 1 => by
    have h := tx4_len bs k
    have h2 := (bs.getD k 0).toNat_lt
    have h3 := decDigits_len_le 3 (bs.getD k 0).toNat (by omega) (by omega)
    rw [tx4]
    split <;> simp only [List.length_append, List.length_cons] <;> omega
theorem tx16_len (bs : List UInt8) : ∀ k, (tx16 bs k).length ≤ 3 * k
  | 0 => Nat.le_refl _
  | k + 1 => by
    have h := tx16_len bs k
    rw [tx16]
    split <;> simp only [List.length_append, List.length_cons, Px.hx, List.length_nil] <;> omega
theorem dot_cat (a b : List UInt8) (s : UInt8) : (⟨a.toArray⟩ : ByteArray) ++ ⟨#[s]⟩ ++ ⟨b.toArray⟩ = ⟨(a ++ s :: b).toArray⟩ := by
  rw [show (⟨#[s]⟩ : ByteArray) = ⟨([s] : List UInt8).toArray⟩ from rfl, str_cat, str_cat]
  simp

end Go.Proofs.YtnodiejfhkjliaaGreatDoor.Pf

namespace Go.Proofs.YtnodiejfhkjliaaGreatDoor.Pf
open Go.RowKit Go.Proofs.YtnodiejfhkjliaaGreatDoor.Wd Go.Proofs.YtnodiejfhkjliaaGreatDoor.Px Go.Proofs.YtnodiejfhkjliaaGreatDoor.By Go.Proofs.YtnodiejfhkjliaaGreatDoor.En Go.Proofs.YtnodiejfhkjliaaGreatDoor.Pl

theorem tx4_join : ∀ (bs : List UInt8), bs.length = 4 → tx4 bs 4 = join 46 (decs bs)
  | [a, b, c, d], _ => by simp [tx4, decs, join]
theorem tx16_join : ∀ (bs : List UInt8), bs.length = 16 → tx16 bs 16 = join 58 (hexs bs)
  | [a, b, c, d, e, f, g, h, i, j, k, l, m, n, o, p], _ => by simp [tx16, hexs, join, ← hx_pair]

end Go.Proofs.YtnodiejfhkjliaaGreatDoor.Pf
